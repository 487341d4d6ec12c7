/- A table with open addresses, in plain lists: what a search finds, what a put, a delete and a growth leave; rows of labels, rising. No program in sight. -/
import Init
namespace Go.Proofs.Ytcioiiobjfblbaa.Sl
set_option linter.unusedVariables false
set_option linter.unusedSimpArgs false

abbrev It := Int × Int
abbrev Slt := Int × Int × Int

/-! ## rows of labels, rising -/
def Rise (l : List It) : Prop := l.Pairwise fun a b => a.1 < b.1
def pos (l : List It) (lab : Int) : Nat := (l.takeWhile fun x => decide (x.1 < lab)).length
def hasB (l : List It) (lab : Int) : Bool := match l[pos l lab]? with | some x => x.1 == lab | none => false
def put (l : List It) (lab v : Int) : List It := l.take (pos l lab) ++ (lab, v) :: l.drop (pos l lab + if hasB l lab = true then 1 else 0)
def del (l : List It) (lab : Int) : List It := l.take (pos l lab) ++ l.drop (pos l lab + 1)
def got (l : List It) (lab : Int) : Int := match l[pos l lab]? with | some x => x.2 | none => 0

theorem pos_le (l : List It) (lab : Int) : pos l lab ≤ l.length := by
  unfold pos
  induction l with
  | nil => simp
  | cons x r ih =>
    simp only [List.takeWhile_cons]
    split <;> simp <;> omega

theorem pos_cons_lt {x : It} {r : List It} {lab : Int} (h : x.1 < lab) : pos (x :: r) lab = pos r lab + 1 := by simp [pos, h]
theorem pos_cons_ge {x : It} {r : List It} {lab : Int} (h : ¬ x.1 < lab) : pos (x :: r) lab = 0 := by simp [pos, h]

/-- where a search for a label stands after k steps -/
theorem pos_of {l : List It} {lab : Int} : ∀ {k : Nat}, (∀ i (x : It), i < k → l[i]? = some x → x.1 < lab) → k ≤ l.length → (∀ x, l[k]? = some x → ¬ x.1 < lab) → pos l lab = k := by
  induction l with
  | nil => intro k _ hk _; simp at hk; simp [pos, hk]
  | cons y r ih =>
    intro k h1 hk h2
    cases k with
    | zero => exact pos_cons_ge (h2 y (by simp))
    | succ k =>
      rw [pos_cons_lt (h1 0 y (by omega) (by simp)), ih (k := k) (fun i x hi hx => h1 (i + 1) x (by omega) (by simpa using hx)) (by simpa using hk) (fun x hx => h2 x (by simpa using hx))]

theorem Rise.tail {x : It} {r : List It} (h : Rise (x :: r)) : Rise r := (List.pairwise_cons.1 h).2
theorem Rise.head {x : It} {r : List It} (h : Rise (x :: r)) : ∀ y ∈ r, x.1 < y.1 := (List.pairwise_cons.1 h).1

theorem has_iff : ∀ {l : List It} (h : Rise l) (lab : Int), hasB l lab = true ↔ ∃ v, (lab, v) ∈ l
  | [], _, lab => by simp [hasB, pos]
  | x :: r, h, lab => by
    by_cases h1 : x.1 < lab
    · have : hasB (x :: r) lab = hasB r lab := by unfold hasB; rw [pos_cons_lt h1]; simp
      rw [this, has_iff h.tail]
      constructor
      · rintro ⟨v, hv⟩; exact ⟨v, List.mem_cons_of_mem _ hv⟩
      · rintro ⟨v, hv⟩
        rcases List.mem_cons.1 hv with rfl | hv
        · simp at h1
        · exact ⟨v, hv⟩
    · have : hasB (x :: r) lab = (x.1 == lab) := by unfold hasB; rw [pos_cons_ge h1]; simp
      rw [this]
      constructor
      · intro e
        have e' : x.1 = lab := by simpa using e
        exact ⟨x.2, by rw [← e']; exact List.mem_cons_self⟩
      · rintro ⟨v, hv⟩
        rcases List.mem_cons.1 hv with rfl | hv
        · simp
        · have := h.head _ hv
          simp at this
          omega

theorem got_of : ∀ {l : List It} (h : Rise l) {lab v : Int}, (lab, v) ∈ l → got l lab = v
  | [], _, lab, v, hv => by simp at hv
  | x :: r, h, lab, v, hv => by
    by_cases h1 : x.1 < lab
    · have : got (x :: r) lab = got r lab := by unfold got; rw [pos_cons_lt h1]; simp
      rw [this]
      rcases List.mem_cons.1 hv with rfl | hv
      · simp at h1
      · exact got_of h.tail hv
    · have : got (x :: r) lab = x.2 := by unfold got; rw [pos_cons_ge h1]; simp
      rw [this]
      rcases List.mem_cons.1 hv with rfl | hv
      · rfl
      · have := h.head _ hv
        simp at this
        omega

theorem hasB_cons_lt {x : It} {r : List It} {lab : Int} (h : x.1 < lab) : hasB (x :: r) lab = hasB r lab := by unfold hasB; rw [pos_cons_lt h]; simp
theorem hasB_cons_ge {x : It} {r : List It} {lab : Int} (h : ¬ x.1 < lab) : hasB (x :: r) lab = (x.1 == lab) := by unfold hasB; rw [pos_cons_ge h]; simp
theorem put_cons_lt {x : It} {r : List It} {lab v : Int} (h : x.1 < lab) : put (x :: r) lab v = x :: put r lab v := by
  unfold put
  rw [pos_cons_lt h, hasB_cons_lt h, List.take_succ_cons, show pos r lab + 1 + (if hasB r lab = true then 1 else 0) = (pos r lab + if hasB r lab = true then 1 else 0) + 1 by omega, List.drop_succ_cons]
  rfl
theorem put_cons_eq {x : It} {r : List It} {v : Int} : put (x :: r) x.1 v = (x.1, v) :: r := by
  unfold put
  rw [pos_cons_ge (by omega), hasB_cons_ge (by omega)]
  simp
theorem put_cons_gt {x : It} {r : List It} {lab v : Int} (h : lab < x.1) : put (x :: r) lab v = (lab, v) :: x :: r := by
  unfold put
  rw [pos_cons_ge (by omega), hasB_cons_ge (by omega)]
  have : (x.1 == lab) = false := by simp; omega
  simp [this]

theorem mem_put : ∀ {l : List It} (h : Rise l) (lab v : Int) (x : It), x ∈ put l lab v ↔ x = (lab, v) ∨ (x ∈ l ∧ x.1 ≠ lab)
  | [], _, lab, v, x => by simp [put, pos, hasB]
  | y :: r, h, lab, v, x => by
    have hh := h.head
    rcases Int.lt_trichotomy y.1 lab with h1 | h1 | h1
    · rw [put_cons_lt h1, List.mem_cons, mem_put h.tail, List.mem_cons]
      constructor
      · rintro (rfl | rfl | ⟨a, b⟩)
        · exact .inr ⟨.inl rfl, by omega⟩
        · exact .inl rfl
        · exact .inr ⟨.inr a, b⟩
      · rintro (rfl | ⟨rfl | a, b⟩)
        · exact .inr (.inl rfl)
        · exact .inl rfl
        · exact .inr (.inr ⟨a, b⟩)
    · subst h1
      rw [put_cons_eq, List.mem_cons, List.mem_cons]
      constructor
      · rintro (rfl | a)
        · exact .inl rfl
        · have := hh x a; exact .inr ⟨.inr a, by omega⟩
      · rintro (rfl | ⟨rfl | a, b⟩)
        · exact .inl rfl
        · exact absurd rfl b
        · exact .inr a
    · rw [put_cons_gt h1, List.mem_cons, List.mem_cons]
      constructor
      · rintro (rfl | rfl | a)
        · exact .inl rfl
        · exact .inr ⟨.inl rfl, by omega⟩
        · have := hh x a; exact .inr ⟨.inr a, by omega⟩
      · rintro (rfl | ⟨a, b⟩)
        · exact .inl rfl
        · exact .inr a

theorem rise_put : ∀ {l : List It} (h : Rise l) (lab v : Int), Rise (put l lab v)
  | [], _, lab, v => by simp [put, pos, hasB, Rise]
  | y :: r, h, lab, v => by
    have hh := h.head
    rcases Int.lt_trichotomy y.1 lab with h1 | h1 | h1
    · rw [put_cons_lt h1]
      refine List.pairwise_cons.2 ⟨fun z hz => ?_, rise_put h.tail lab v⟩
      rcases (mem_put h.tail lab v z).1 hz with rfl | ⟨a, _⟩
      · exact h1
      · exact hh z a
    · subst h1
      rw [put_cons_eq]
      exact List.pairwise_cons.2 ⟨hh, h.tail⟩
    · rw [put_cons_gt h1]
      refine List.pairwise_cons.2 ⟨fun z hz => ?_, h⟩
      rcases List.mem_cons.1 hz with rfl | a
      · exact h1
      · have := hh z a; simp only; omega

theorem length_put : ∀ {l : List It} (lab v : Int), (put l lab v).length = if hasB l lab = true then l.length else l.length + 1
  | [], lab, v => by simp [put, pos, hasB]
  | y :: r, lab, v => by
    rcases Int.lt_trichotomy y.1 lab with h1 | h1 | h1
    · rw [put_cons_lt h1, hasB_cons_lt h1, List.length_cons, length_put lab v]; split <;> simp
    · subst h1
      rw [put_cons_eq, hasB_cons_ge (by omega)]; simp
    · rw [put_cons_gt h1, hasB_cons_ge (by omega)]
      have : (y.1 == lab) = false := by simp; omega
      simp [this]

theorem del_cons_lt {x : It} {r : List It} {lab : Int} (h : x.1 < lab) : del (x :: r) lab = x :: del r lab := by
  unfold del
  rw [pos_cons_lt h, List.take_succ_cons, List.drop_succ_cons]; rfl
theorem del_cons_eq {x : It} {r : List It} : del (x :: r) x.1 = r := by unfold del; rw [pos_cons_ge (by omega)]; simp

theorem mem_del : ∀ {l : List It} (h : Rise l) {lab : Int} (hs : hasB l lab = true) (x : It), x ∈ del l lab ↔ x ∈ l ∧ x.1 ≠ lab
  | [], _, lab, hs, x => by simp [hasB, pos] at hs
  | y :: r, h, lab, hs, x => by
    have hh := h.head
    by_cases h1 : y.1 < lab
    · rw [hasB_cons_lt h1] at hs
      rw [del_cons_lt h1, List.mem_cons, mem_del h.tail hs, List.mem_cons]
      constructor
      · rintro (rfl | ⟨a, b⟩)
        · exact ⟨.inl rfl, by omega⟩
        · exact ⟨.inr a, b⟩
      · rintro ⟨rfl | a, b⟩
        · exact .inl rfl
        · exact .inr ⟨a, b⟩
    · rw [hasB_cons_ge h1] at hs
      have e : y.1 = lab := by simpa using hs
      subst e
      rw [del_cons_eq, List.mem_cons]
      constructor
      · intro a; have := hh x a; exact ⟨.inr a, by omega⟩
      · rintro ⟨rfl | a, b⟩
        · exact absurd rfl b
        · exact a
theorem rise_del {l : List It} (h : Rise l) (lab : Int) : Rise (del l lab) := by
  unfold del
  have h1 : (l.take (pos l lab) ++ l.drop (pos l lab + 1)).Sublist l := by
    have : l.take (pos l lab) ++ l.drop (pos l lab) = l := List.take_append_drop _ _
    conv => rhs; rw [← this]
    refine List.Sublist.append (List.Sublist.refl _) ?_
    have h2 := List.drop_sublist 1 (l.drop (pos l lab))
    rwa [List.drop_drop] at h2
  exact List.Pairwise.sublist h1 h
theorem length_del : ∀ {l : List It} {lab : Int}, hasB l lab = true → (del l lab).length + 1 = l.length
  | [], lab, hs => by simp [hasB, pos] at hs
  | y :: r, lab, hs => by
    by_cases h1 : y.1 < lab
    · rw [hasB_cons_lt h1] at hs
      rw [del_cons_lt h1]; simp [length_del hs]
    · rw [hasB_cons_ge h1] at hs
      have e : y.1 = lab := by simpa using hs
      subst e
      rw [del_cons_eq]; simp

/-- rows that rise and have the same are the same -/
theorem rise_uniq : ∀ {l m : List It}, Rise l → Rise m → (∀ x, x ∈ l ↔ x ∈ m) → l = m
  | [], [], _, _, _ => rfl
  | [], y :: m, _, _, h => absurd ((h y).2 List.mem_cons_self) (by simp)
  | x :: l, [], _, _, h => absurd ((h x).1 List.mem_cons_self) (by simp)
  | x :: l, y :: m, hl, hm, h => by
    have e : x = y := by
      rcases List.mem_cons.1 ((h x).1 List.mem_cons_self) with e | e
      · exact e
      · rcases List.mem_cons.1 ((h y).2 List.mem_cons_self) with e' | e'
        · exact e'.symm
        · have := hm.head x e; have := hl.head y e'; omega
    subst e
    refine congrArg _ (rise_uniq hl.tail hm.tail fun z => ⟨fun hz => ?_, fun hz => ?_⟩)
    · rcases List.mem_cons.1 ((h z).1 (List.mem_cons_of_mem _ hz)) with rfl | e
      · have := hl.head z hz; omega
      · exact e
    · rcases List.mem_cons.1 ((h z).2 (List.mem_cons_of_mem _ hz)) with rfl | e
      · have := hm.head z hz; omega
      · exact e

/-! ## slots -/
/-- R: what is there -/
structure Tbl (H : Int → Nat → Nat) (s : List Slt) (R : It → Prop) : Prop where
  kind : ∀ x ∈ s, x.1 = 0 ∨ x.1 = 1 ∨ x.1 = 2
  mem : ∀ lab v, R (lab, v) ↔ (2, lab, v) ∈ s
  uniq : ∀ (p q : Nat) (lab v v' : Int), s[p]? = some (2, lab, v) → s[q]? = some (2, lab, v') → p = q
  home : ∀ (p : Nat) (lab v : Int), s[p]? = some (2, lab, v) → ∃ d, d < s.length ∧ p = (H lab s.length + d) % s.length ∧ ∀ i, i < d → ∀ x, s[(H lab s.length + i) % s.length]? = some x → x.1 ≠ 0

/-- where a search comes to -/
def Yes (s : List Slt) (lab : Int) (p : Nat) : Prop := ∃ v, s[p]? = some (2, lab, v)
structure No (s : List Slt) (h : Nat) (lab : Int) (p : Nat) : Prop where
  lt : p < s.length
  free : ∀ x, s[p]? = some x → x.1 ≠ 2
  way : ∃ o, o < s.length ∧ p = (h + o) % s.length ∧ ∀ i, i < o → ∀ x, s[(h + i) % s.length]? = some x → x.1 ≠ 0
  none : ∃ d, d < s.length ∧ (∃ x, s[(h + d) % s.length]? = some x ∧ x.1 = 0) ∧ ∀ i, i < d → ∀ x, s[(h + i) % s.length]? = some x → x.1 ≠ 0 ∧ ∀ v, x ≠ (2, lab, v)

theorem Tbl.not_there {H : Int → Nat → Nat} {s : List Slt} {R : It → Prop} (t : Tbl H s R) {lab : Int} {p : Nat} (h : No s (H lab s.length) lab p) (v : Int) : ¬ R (lab, v) := by
  intro hr
  have hm := (t.mem lab v).1 hr
  obtain ⟨q, hq, he⟩ := List.mem_iff_getElem.1 hm
  have hq' : s[q]? = some (2, lab, v) := by rw [List.getElem?_eq_getElem hq, he]
  obtain ⟨d', hd', e', h'⟩ := t.home q lab v hq'
  obtain ⟨d, hd, ⟨x, hx, hx0⟩, hn⟩ := h.none
  rcases Nat.lt_trichotomy d d' with h1 | h1 | h1
  · exact h' d h1 x hx hx0
  · subst h1
    rw [← e', hq'] at hx
    cases hx
    cases hx0
  · rw [e'] at hq'
    exact (hn d' h1 _ hq').2 v rfl

theorem Tbl.of_yes {H : Int → Nat → Nat} {s : List Slt} {R : It → Prop} (t : Tbl H s R) {lab : Int} {p : Nat} {v : Int} (h : s[p]? = some (2, lab, v)) : R (lab, v) :=
  (t.mem lab v).2 (List.mem_of_getElem? h)
theorem Tbl.one {H : Int → Nat → Nat} {s : List Slt} {R : It → Prop} (t : Tbl H s R) {lab v v' : Int} (h : R (lab, v)) (h' : R (lab, v')) : v = v' := by
  obtain ⟨p, hp, e⟩ := List.mem_iff_getElem.1 ((t.mem lab v).1 h)
  obtain ⟨q, hq, e'⟩ := List.mem_iff_getElem.1 ((t.mem lab v').1 h')
  have hp' : s[p]? = some (2, lab, v) := by rw [List.getElem?_eq_getElem hp, e]
  have hq' : s[q]? = some (2, lab, v') := by rw [List.getElem?_eq_getElem hq, e']
  have := t.uniq p q lab v v' hp' hq'
  subst this
  rw [hp'] at hq'
  cases hq'
  rfl

theorem getElem?_set' {s : List Slt} {p : Nat} (hp : p < s.length) (y : Slt) (q : Nat) : (s.set p y)[q]? = if p = q then some y else s[q]? := by
  rw [List.getElem?_set]
  split
  · rename_i h; subst h; simp [hp]
  · rfl
theorem mem_set' {s : List Slt} {p : Nat} (hp : p < s.length) (y z : Slt) : z ∈ s.set p y ↔ z = y ∨ ∃ q, q ≠ p ∧ s[q]? = some z := by
  rw [List.mem_iff_getElem?]
  constructor
  · rintro ⟨q, hq⟩
    rw [getElem?_set' hp] at hq
    split at hq
    · cases hq; exact .inl rfl
    · rename_i h; exact .inr ⟨q, fun e => h e.symm, hq⟩
  · rintro (rfl | ⟨q, hne, hq⟩)
    · exact ⟨p, by rw [getElem?_set' hp, if_pos rfl]⟩
    · exact ⟨q, by rw [getElem?_set' hp, if_neg (fun e => hne e.symm)]; exact hq⟩

/-- a label that wasn't there is put where its search came to -/
theorem Tbl.put_new {H : Int → Nat → Nat} {s : List Slt} {R : It → Prop} (t : Tbl H s R) {lab : Int} {p : Nat} (h : No s (H lab s.length) lab p) (v : Int) :
    Tbl H (s.set p (2, lab, v)) (fun x => x = (lab, v) ∨ R x) := by
  have hne : ∀ w, ¬ R (lab, w) := fun w => t.not_there h w
  have hfree : ∀ (q : Nat) (l w : Int), s[q]? = some (2, l, w) → q ≠ p := by
    rintro q l w hq rfl
    exact h.free _ hq rfl
  refine ⟨fun x hx => ?_, fun l w => ?_, fun q q' l w w' h1 h2 => ?_, fun q l w h1 => ?_⟩
  · rcases (mem_set' h.lt _ _).1 hx with rfl | ⟨q, _, hq⟩
    · exact .inr (.inr rfl)
    · exact t.kind _ (List.mem_of_getElem? hq)
  · rw [mem_set' h.lt, t.mem l w]
    constructor
    · rintro (e | e)
      · left; injection e with e1 e2; rw [e1, e2]
      · obtain ⟨q, hq, e⟩ := List.mem_iff_getElem.1 e
        have hq' : s[q]? = some (2, l, w) := by rw [List.getElem?_eq_getElem hq, e]
        exact .inr ⟨q, hfree q l w hq', hq'⟩
    · rintro (e | ⟨q, _, hq⟩)
      · exact .inl (by simpa using e)
      · exact .inr (List.mem_of_getElem? hq)
  · rw [getElem?_set' h.lt] at h1 h2
    split at h1 <;> split at h2
    · omega
    · rename_i e _
      cases h1
      exact absurd (t.of_yes h2) (hne _)
    · rename_i _ e
      cases h2
      exact absurd (t.of_yes h1) (hne _)
    · exact t.uniq q q' l w w' h1 h2
  · rw [getElem?_set' h.lt] at h1
    rw [List.length_set]
    have key : ∀ d : Nat, (∀ i, i < d → ∀ x, s[(H l s.length + i) % s.length]? = some x → x.1 ≠ 0) → ∀ i, i < d → ∀ x, (s.set p (2, lab, v))[(H l s.length + i) % s.length]? = some x → x.1 ≠ 0 := by
      intro d hd i hi x hx
      rw [getElem?_set' h.lt] at hx
      split at hx
      · cases hx; simp
      · exact hd i hi x hx
    split at h1
    · rename_i e
      cases h1
      obtain ⟨o, ho, e', hw⟩ := h.way
      exact ⟨o, ho, by omega, key o hw⟩
    · obtain ⟨d, hd, e', hw⟩ := t.home q l w h1
      exact ⟨d, hd, e', key d hw⟩

/-- a label that is there gets another value -/
theorem Tbl.put_old {H : Int → Nat → Nat} {s : List Slt} {R : It → Prop} (t : Tbl H s R) {lab : Int} {p : Nat} {v0 : Int} (h : s[p]? = some (2, lab, v0)) (v : Int) :
    Tbl H (s.set p (2, lab, v)) (fun x => x = (lab, v) ∨ (R x ∧ x.1 ≠ lab)) := by
  have hp : p < s.length := (List.getElem?_eq_some_iff.1 h).1
  refine ⟨fun x hx => ?_, fun l w => ?_, fun q q' l w w' h1 h2 => ?_, fun q l w h1 => ?_⟩
  · rcases (mem_set' hp _ _).1 hx with rfl | ⟨q, _, hq⟩
    · exact .inr (.inr rfl)
    · exact t.kind _ (List.mem_of_getElem? hq)
  · rw [mem_set' hp, t.mem l w]
    constructor
    · rintro (e | ⟨e, hl⟩)
      · left; injection e with e1 e2; rw [e1, e2]
      · obtain ⟨q, hq, e⟩ := List.mem_iff_getElem.1 e
        have hq' : s[q]? = some (2, l, w) := by rw [List.getElem?_eq_getElem hq, e]
        refine .inr ⟨q, ?_, hq'⟩
        rintro rfl
        rw [h] at hq'
        cases hq'
        exact hl rfl
    · rintro (e | ⟨q, hne, hq⟩)
      · exact .inl (by simpa using e)
      · refine .inr ⟨List.mem_of_getElem? hq, ?_⟩
        rintro rfl
        exact hne (t.uniq q p _ w v0 hq h)
  · rw [getElem?_set' hp] at h1 h2
    split at h1 <;> split at h2
    · omega
    · rename_i e _
      cases h1
      rw [← e]
      exact t.uniq p q' _ v0 w' h h2
    · rename_i _ e
      cases h2
      rw [← e]
      exact t.uniq q p _ w v0 h1 h
    · exact t.uniq q q' l w w' h1 h2
  · rw [getElem?_set' hp] at h1
    rw [List.length_set]
    have key : ∀ d : Nat, (∀ i, i < d → ∀ x, s[(H l s.length + i) % s.length]? = some x → x.1 ≠ 0) → ∀ i, i < d → ∀ x, (s.set p (2, lab, v))[(H l s.length + i) % s.length]? = some x → x.1 ≠ 0 := by
      intro d hd i hi x hx
      rw [getElem?_set' hp] at hx
      split at hx
      · cases hx; simp
      · exact hd i hi x hx
    split at h1
    · rename_i e
      cases h1
      obtain ⟨d, hd, e', hw⟩ := t.home p _ v0 h
      exact ⟨d, hd, by omega, key d hw⟩
    · obtain ⟨d, hd, e', hw⟩ := t.home q l w h1
      exact ⟨d, hd, e', key d hw⟩

/-- a label goes -/
theorem Tbl.del {H : Int → Nat → Nat} {s : List Slt} {R : It → Prop} (t : Tbl H s R) {lab : Int} {p : Nat} {v0 : Int} (h : s[p]? = some (2, lab, v0)) :
    Tbl H (s.set p (1, 0, 0)) (fun x => R x ∧ x.1 ≠ lab) := by
  have hp : p < s.length := (List.getElem?_eq_some_iff.1 h).1
  refine ⟨fun x hx => ?_, fun l w => ?_, fun q q' l w w' h1 h2 => ?_, fun q l w h1 => ?_⟩
  · rcases (mem_set' hp _ _).1 hx with rfl | ⟨q, _, hq⟩
    · exact .inr (.inl rfl)
    · exact t.kind _ (List.mem_of_getElem? hq)
  · rw [mem_set' hp, t.mem l w]
    constructor
    · rintro ⟨e, hl⟩
      obtain ⟨q, hq, e⟩ := List.mem_iff_getElem.1 e
      have hq' : s[q]? = some (2, l, w) := by rw [List.getElem?_eq_getElem hq, e]
      refine .inr ⟨q, ?_, hq'⟩
      rintro rfl
      rw [h] at hq'
      cases hq'
      exact hl rfl
    · rintro (e | ⟨q, hne, hq⟩)
      · injection e with e _; cases e
      · refine ⟨List.mem_of_getElem? hq, ?_⟩
        rintro rfl
        exact hne (t.uniq q p _ w v0 hq h)
  · rw [getElem?_set' hp] at h1 h2
    split at h1
    · cases h1
    · split at h2
      · cases h2
      · exact t.uniq q q' l w w' h1 h2
  · rw [getElem?_set' hp] at h1
    rw [List.length_set]
    split at h1
    · cases h1
    · obtain ⟨d, hd, e', hw⟩ := t.home q l w h1
      refine ⟨d, hd, e', fun i hi x hx => ?_⟩
      rw [getElem?_set' hp] at hx
      split at hx
      · cases hx; simp
      · exact hw i hi x hx

theorem Tbl.fresh (H : Int → Nat → Nat) (n : Nat) : Tbl H (List.replicate n (0, 0, 0)) (fun _ => False) := by
  have h0 : ∀ (q : Nat) (x : Slt), (List.replicate n ((0, 0, 0) : Slt))[q]? = some x → x = (0, 0, 0) := fun q x hx => List.eq_of_mem_replicate (List.mem_of_getElem? hx)
  refine ⟨fun x hx => .inl (by rw [List.eq_of_mem_replicate hx]), fun l w => ⟨False.elim, fun h => ?_⟩, fun q q' l w w' h1 _ => ?_, fun q l w h1 => ?_⟩
  · have := List.eq_of_mem_replicate h; injection this with a _; cases a
  · have := h0 _ _ h1; injection this with a _; cases a
  · have := h0 _ _ h1; injection this with a _; cases a
theorem Tbl.congr {H : Int → Nat → Nat} {s : List Slt} {R R' : It → Prop} (t : Tbl H s R) (h : ∀ x, R x ↔ R' x) : Tbl H s R' :=
  ⟨t.kind, fun l w => (h _).symm.trans (t.mem l w), t.uniq, t.home⟩

/-! ## how many -/
def usedN (s : List Slt) : Nat := s.countP fun x => decide (x.1 ≠ 0)
def thereN (s : List Slt) : Nat := s.countP fun x => decide (x.1 = 2)
theorem countP_set {α : Type} (f : α → Bool) : ∀ {s : List α} {p : Nat} {x : α}, s[p]? = some x → ∀ y, (s.set p y).countP f + (if f x = true then 1 else 0) = s.countP f + (if f y = true then 1 else 0)
  | [], p, x, h, y => by simp at h
  | a :: r, 0, x, h, y => by
    simp at h; subst h
    simp only [List.set_cons_zero, List.countP_cons]
    omega
  | a :: r, p + 1, x, h, y => by
    have := countP_set f (s := r) (p := p) (by simpa using h) y
    simp only [List.set_cons_succ, List.countP_cons]
    omega
theorem usedN_replicate (n : Nat) : usedN (List.replicate n (0, 0, 0)) = 0 := by simp [usedN, List.countP_replicate]
theorem thereN_replicate (n : Nat) : thereN (List.replicate n (0, 0, 0)) = 0 := by simp [thereN, List.countP_replicate]
theorem there_le_used (s : List Slt) : thereN s ≤ usedN s := by
  unfold thereN usedN
  refine List.countP_mono_left fun x _ h => ?_
  simp at h ⊢
  omega

/-- where a half is free, a search ends -/
theorem ends {s : List Slt} (h : usedN s < s.length) (hm : Nat) : ∃ d, d < s.length ∧ ∃ x, s[(hm + d) % s.length]? = some x ∧ x.1 = 0 := by
  have h1 : ∃ x ∈ s, ¬ decide (x.1 ≠ 0) = true := by
    refine Classical.byContradiction fun hc => ?_
    have : usedN s = s.length := List.countP_eq_length.2 fun x hx => Classical.byContradiction fun hh => hc ⟨x, hx, hh⟩
    omega
  obtain ⟨x, hx, hx0⟩ := h1
  obtain ⟨p, hp, e⟩ := List.mem_iff_getElem.1 hx
  have hx0' : x.1 = 0 := by simpa using hx0
  have hn : 0 < s.length := by omega
  refine ⟨(p + (s.length - hm % s.length)) % s.length, Nat.mod_lt _ hn, x, ?_, hx0'⟩
  have hmm := Nat.mod_lt hm hn
  have : (hm + (p + (s.length - hm % s.length)) % s.length) % s.length = p := by
    rw [Nat.add_mod_mod]
    have h2 := Nat.div_add_mod hm s.length
    have h3 : hm + (p + (s.length - hm % s.length)) = p + s.length * (hm / s.length + 1) := by
      rw [Nat.mul_add, Nat.mul_one]
      omega
    rw [h3, Nat.add_mul_mod_self_left, Nat.mod_eq_of_lt hp]
  rw [this, List.getElem?_eq_getElem hp, e]

/-! ## a search, step by step -/
/-- after k steps: op, the first slot that isn't there, or -1 -/
structure Srch (s : List Slt) (h : Nat) (lab : Int) (op : Int) (k : Nat) : Prop where
  pre : ∀ i, i < k → ∀ x, s[(h + i) % s.length]? = some x → x.1 ≠ 0 ∧ ∀ v, x ≠ (2, lab, v)
  opn : (op = -1 ∧ ∀ i, i < k → ∀ x, s[(h + i) % s.length]? = some x → x.1 = 2) ∨
    (∃ o, o < k ∧ op = ((h + o) % s.length : Nat) ∧ ∀ x, s[(h + o) % s.length]? = some x → x.1 ≠ 2)
theorem Srch.start (s : List Slt) (h : Nat) (lab : Int) : Srch s h lab (-1) 0 := ⟨fun i hi => by omega, .inl ⟨rfl, fun i hi => by omega⟩⟩
theorem Srch.neg {s : List Slt} {h : Nat} {lab op : Int} {k : Nat} (t : Srch s h lab op k) : op = -1 ∨ (0 ≤ op ∧ op < (s.length : Int) ∨ s.length = 0) := by
  rcases t.opn with ⟨e, _⟩ | ⟨o, _, e, _⟩
  · exact .inl e
  · by_cases h0 : s.length = 0
    · exact .inr (.inr h0)
    · have := Nat.mod_lt (h + o) (show 0 < s.length by omega)
      exact .inr (.inl ⟨by omega, by omega⟩)
/-- there, with another label -/
theorem Srch.there {s : List Slt} {h : Nat} {lab op : Int} {k : Nat} (t : Srch s h lab op k) {l v : Int} (hx : s[(h + k) % s.length]? = some (2, l, v)) (hl : l ≠ lab) : Srch s h lab op (k + 1) := by
  refine ⟨fun i hi x hxi => ?_, ?_⟩
  · by_cases e : i < k
    · exact t.pre i e x hxi
    · obtain rfl : i = k := by omega
      rw [hx] at hxi; cases hxi
      exact ⟨by simp, fun v' e => by injection e with _ e; injection e with e _; exact hl e⟩
  · rcases t.opn with ⟨e, ha⟩ | ⟨o, ho, e, hn⟩
    · refine .inl ⟨e, fun i hi x hxi => ?_⟩
      by_cases e : i < k
      · exact ha i e x hxi
      · obtain rfl : i = k := by omega
        rw [hx] at hxi; cases hxi; rfl
    · exact .inr ⟨o, by omega, e, hn⟩
/-- gone: it may be the first one -/
theorem Srch.gone {s : List Slt} {h : Nat} {lab op : Int} {k : Nat} (t : Srch s h lab op k) {x : Slt} (hx : s[(h + k) % s.length]? = some x) (h0 : x.1 ≠ 0) (h2 : x.1 ≠ 2) :
    Srch s h lab (if op < 0 then (((h + k) % s.length : Nat) : Int) else op) (k + 1) := by
  refine ⟨fun i hi y hyi => ?_, ?_⟩
  · by_cases e : i < k
    · exact t.pre i e y hyi
    · obtain rfl : i = k := by omega
      rw [hx] at hyi; cases hyi
      exact ⟨h0, fun v e => h2 (by rw [e])⟩
  · rcases t.opn with ⟨e, ha⟩ | ⟨o, ho, e, hn⟩
    · rw [if_pos (by omega)]
      exact .inr ⟨k, by omega, rfl, fun y hy => by rw [hx] at hy; cases hy; exact h2⟩
    · rw [if_neg (by omega)]
      exact .inr ⟨o, by omega, e, hn⟩
/-- never: the search ends -/
theorem Srch.stop {s : List Slt} {h : Nat} {lab op : Int} {k : Nat} (t : Srch s h lab op k) {x : Slt} (hx : s[(h + k) % s.length]? = some x) (h0 : x.1 = 0) (hk : k < s.length) :
    ∃ p : Nat, (if op < 0 then (((h + k) % s.length : Nat) : Int) else op) = p ∧ No s h lab p := by
  have hn : 0 < s.length := by omega
  rcases t.opn with ⟨e, ha⟩ | ⟨o, ho, e, hno⟩
  · rw [if_pos (by omega)]
    exact ⟨_, rfl, Nat.mod_lt _ hn, fun y hy => by rw [hx] at hy; cases hy; omega, ⟨k, hk, rfl, fun i hi y hy => (t.pre i hi y hy).1⟩, ⟨k, hk, ⟨x, hx, h0⟩, t.pre⟩⟩
  · rw [if_neg (by omega)]
    exact ⟨_, e, Nat.mod_lt _ hn, hno, ⟨o, by omega, rfl, fun i hi y hy => (t.pre i (by omega) y hy).1⟩, ⟨k, hk, ⟨x, hx, h0⟩, t.pre⟩⟩
/-- .. at the first one that was never there -/
theorem Srch.lt {s : List Slt} {h : Nat} {lab op : Int} {k : Nat} (t : Srch s h lab op k) {d : Nat} (hd : ∃ x, s[(h + d) % s.length]? = some x ∧ x.1 = 0) : k ≤ d := by
  obtain ⟨x, hx, h0⟩ := hd
  refine Classical.byContradiction fun hc => ?_
  exact (t.pre d (by omega) x hx).1 h0
end Go.Proofs.Ytcioiiobjfblbaa.Sl
