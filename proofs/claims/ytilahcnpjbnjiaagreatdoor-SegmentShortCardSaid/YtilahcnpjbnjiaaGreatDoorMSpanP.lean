import GoSem.Core.Value
/- Plain facts on rows of spans: normal rows are fixed by their labels; insertion keeps them normal. No program in sight. -/
namespace Go.Proofs.YtilahcnpjbnjiaaGreatDoor.Sp
set_option linter.unusedVariables false
set_option linter.unusedSimpArgs false

abbrev S := Int × Int

def mayB (s : S) : Bool := decide (0 ≤ s.1) && decide (s.1 ≤ s.2) && decide (s.2 ≤ 1048575)
theorem mayB_iff {s : S} : mayB s = true ↔ 0 ≤ s.1 ∧ s.1 ≤ s.2 ∧ s.2 ≤ 1048575 := by
  simp [mayB, and_assoc]

/-- the rows' labels -/
def In (l : List S) (n : Int) : Prop := ∃ s ∈ l, mayB s = true ∧ s.1 ≤ n ∧ n ≤ s.2
theorem in_nil (n : Int) : ¬ In [] n := by simp [In]
theorem in_cons {s : S} {l : List S} {n : Int} : In (s :: l) n ↔ (mayB s = true ∧ s.1 ≤ n ∧ n ≤ s.2) ∨ In l n := by
  simp [In]
theorem in_append {l m : List S} {n : Int} : In (l ++ m) n ↔ In l n ∨ In m n := by
  induction l with
  | nil => simp [in_nil]
  | cons s l ih => simp only [List.cons_append, in_cons, ih, or_assoc]

def inB (l : List S) (n : Int) : Bool := l.any fun s => mayB s && decide (s.1 ≤ n) && decide (n ≤ s.2)
theorem inB_iff {l : List S} {n : Int} : inB l n = true ↔ In l n := by simp [inB, In, and_assoc]
theorem inB_of {l : List S} {n : Int} {b : Bool} (h : b = true ↔ In l n) : inB l n = b := by
  cases b
  · cases hb : inB l n
    · rfl
    · exact absurd (h.2 (inB_iff.1 hb)) (by simp)
  · exact inB_iff.2 (h.1 rfl)
theorem in_take {l : List S} (n : Int) {k : Nat} (h : k < l.length) : In (l.take (k + 1)) n ↔ In (l.take k) n ∨ (mayB l[k] = true ∧ l[k].1 ≤ n ∧ n ≤ l[k].2) := by
  rw [List.take_succ_eq_append_getElem h, in_append, in_cons]
  simp [in_nil]

/-- disjoint, apart, rising -/
def Nrm : List S → Prop
  | [] => True
  | s :: r => mayB s = true ∧ (∀ t ∈ r, s.2 + 1 < t.1) ∧ Nrm r

theorem Nrm.may {l : List S} (h : Nrm l) : ∀ s ∈ l, mayB s = true := by
  induction l with
  | nil => simp
  | cons a r ih =>
    intro s hs
    rcases List.mem_cons.1 hs with rfl | hs
    · exact h.1
    · exact ih h.2.2 s hs

theorem Nrm.uniq : ∀ {a b : List S}, Nrm a → Nrm b → (∀ n, In a n ↔ In b n) → a = b
  | [], [], _, _, _ => rfl
  | [], t :: r, _, hb, h => by
    have ht := mayB_iff.1 hb.1
    exact absurd ((h t.1).2 (in_cons.2 (.inl ⟨hb.1, Int.le_refl _, ht.2.1⟩))) (in_nil _)
  | s :: r, [], ha, _, h => by
    have hs := mayB_iff.1 ha.1
    exact absurd ((h s.1).1 (in_cons.2 (.inl ⟨ha.1, Int.le_refl _, hs.2.1⟩))) (in_nil _)
  | s :: q, t :: r, ha, hb, h => by
    have hs := mayB_iff.1 ha.1
    have ht := mayB_iff.1 hb.1
    have low : ∀ {x : S} {l : List S} {n : Int}, Nrm (x :: l) → In (x :: l) n → x.1 ≤ n := by
      intro x l n hx hn
      rcases in_cons.1 hn with hn | ⟨y, hy, _, h1, _⟩
      · exact hn.2.1
      · have := hx.2.1 y hy
        have := mayB_iff.1 hx.1
        omega
    have e1 : s.1 = t.1 := by
      have h1 := low hb ((h s.1).1 (in_cons.2 (.inl ⟨ha.1, Int.le_refl _, hs.2.1⟩)))
      have h2 := low ha ((h t.1).2 (in_cons.2 (.inl ⟨hb.1, Int.le_refl _, ht.2.1⟩)))
      omega
    have out : ∀ {x : S} {l : List S}, Nrm (x :: l) → ¬ In (x :: l) (x.2 + 1) := by
      intro x l hx hn
      rcases in_cons.1 hn with hn | ⟨y, hy, _, h1, _⟩
      · omega
      · have := hx.2.1 y hy
        omega
    have e2 : s.2 = t.2 := by
      rcases Int.lt_trichotomy s.2 t.2 with hlt | he | hgt
      · exact absurd ((h (s.2 + 1)).2 (in_cons.2 (.inl ⟨hb.1, by omega, by omega⟩))) (out ha)
      · exact he
      · exact absurd ((h (t.2 + 1)).1 (in_cons.2 (.inl ⟨ha.1, by omega, by omega⟩))) (out hb)
    have est : s = t := Prod.ext e1 e2
    subst est
    have hrec : q = r := Nrm.uniq ha.2.2 hb.2.2 fun n => by
      have tail : ∀ {l : List S}, Nrm (s :: l) → In l n → s.2 + 1 < n := by
        intro l hl hn
        obtain ⟨y, hy, _, h1, _⟩ := hn
        have := hl.2.1 y hy
        omega
      constructor
      · intro hn
        have hb' := tail ha hn
        rcases in_cons.1 ((h n).1 (in_cons.2 (.inr hn))) with hx | hx
        · omega
        · exact hx
      · intro hn
        have hb' := tail hb hn
        rcases in_cons.1 ((h n).2 (in_cons.2 (.inr hn))) with hx | hx
        · omega
        · exact hx
    rw [hrec]

/-- a span more -/
def ins (s : S) : List S → List S
  | [] => [s]
  | t :: r => if s.2 + 1 < t.1 then s :: t :: r else if t.2 + 1 < s.1 then t :: ins s r else ins (min s.1 t.1, max s.2 t.2) r

theorem ins_low {s : S} {l : List S} {b : Int} (hs : b < s.1) (hl : ∀ t ∈ l, b < t.1) : ∀ t ∈ ins s l, b < t.1 := by
  induction l generalizing s with
  | nil => simpa [ins] using hs
  | cons a r ih =>
    have ha := hl a (by simp)
    have hr := fun t ht => hl t (List.mem_cons_of_mem _ ht)
    unfold ins
    split
    · intro t ht
      rcases List.mem_cons.1 ht with rfl | ht
      · exact hs
      · exact hl t ht
    · split
      · intro t ht
        rcases List.mem_cons.1 ht with rfl | ht
        · exact ha
        · exact ih hs hr t ht
      · exact ih (by simp only; omega) hr

theorem ins_ok {s : S} {l : List S} (hs : mayB s = true) (hl : Nrm l) : Nrm (ins s l) ∧ ∀ n, In (ins s l) n ↔ (s.1 ≤ n ∧ n ≤ s.2) ∨ In l n := by
  induction l generalizing s with
  | nil => exact ⟨⟨hs, by simp, trivial⟩, fun n => by simp [ins, in_cons, hs]⟩
  | cons a r ih =>
    have ha := mayB_iff.1 hl.1
    have h := mayB_iff.1 hs
    unfold ins
    split
    · rename_i h1
      refine ⟨⟨hs, fun t ht => ?_, hl⟩, fun n => by simp [in_cons, hs]⟩
      rcases List.mem_cons.1 ht with rfl | ht
      · exact h1
      · have := hl.2.1 t ht
        omega
    · split
      · rename_i h1 h2
        have hi := ih hs hl.2.2
        refine ⟨⟨hl.1, ins_low h2 hl.2.1, hi.1⟩, fun n => ?_⟩
        rw [in_cons, hi.2, in_cons]
        constructor
        · rintro (h | h | h)
          · exact .inr (.inl h)
          · exact .inl h
          · exact .inr (.inr h)
        · rintro (h | h | h)
          · exact .inr (.inl h)
          · exact .inl h
          · exact .inr (.inr h)
      · rename_i h1 h2
        have hm : mayB (min s.1 a.1, max s.2 a.2) = true := mayB_iff.2 ⟨by simp only; omega, by simp only; omega, by simp only; omega⟩
        have hi := ih hm hl.2.2
        refine ⟨hi.1, fun n => ?_⟩
        rw [hi.2, in_cons]
        simp only
        constructor
        · rintro (h3 | h3)
          · by_cases h4 : s.1 ≤ n ∧ n ≤ s.2
            · exact .inl h4
            · exact .inr (.inl ⟨hl.1, by omega, by omega⟩)
          · exact .inr (.inr h3)
        · rintro (h3 | h3 | h3)
          · exact .inl ⟨by omega, by omega⟩
          · exact .inl ⟨by omega, by omega⟩
          · exact .inr h3

/-- rows as disjoint ones -/
def norm : List S → List S
  | [] => []
  | s :: r => if mayB s = true then ins s (norm r) else norm r

theorem norm_ok (l : List S) : Nrm (norm l) ∧ ∀ n, In (norm l) n ↔ In l n := by
  induction l with
  | nil => exact ⟨trivial, fun n => Iff.rfl⟩
  | cons s r ih =>
    unfold norm
    split
    · rename_i h
      have hi := ins_ok h ih.1
      exact ⟨hi.1, fun n => by rw [hi.2, in_cons, ih.2]; simp [h]⟩
    · rename_i h
      exact ⟨ih.1, fun n => by rw [ih.2, in_cons]; simp [h]⟩

theorem norm_of {l m : List S} (hm : Nrm m) (h : ∀ n, In m n ↔ In l n) : m = norm l :=
  Nrm.uniq hm (norm_ok l).1 fun n => (h n).trans ((norm_ok l).2 n).symm
theorem norm_eq {l m : List S} (h : ∀ n, In l n ↔ In m n) : norm l = norm m :=
  Nrm.uniq (norm_ok l).1 (norm_ok m).1 fun n => ((norm_ok l).2 n).trans ((h n).trans ((norm_ok m).2 n).symm)
theorem norm_norm (l : List S) : norm (norm l) = norm l := norm_eq (norm_ok l).2
theorem norm_self {l : List S} (h : Nrm l) : norm l = l := (norm_of h fun _ => Iff.rfl).symm

theorem ins_length (s : S) (l : List S) : (ins s l).length ≤ l.length + 1 := by
  induction l generalizing s with
  | nil => simp [ins]
  | cons a r ih =>
    unfold ins
    split
    · simp
    · split
      · have := ih s; simp; omega
      · have := ih (min s.1 a.1, max s.2 a.2); simp; omega
theorem norm_length (l : List S) : (norm l).length ≤ l.length := by
  induction l with
  | nil => simp [norm]
  | cons s r ih =>
    unfold norm
    split
    · have := ins_length s (norm r); simp; omega
    · simp; omega

/-- a span less: the pieces -/
def pieces (s : S) (l : List S) : List S := l.flatMap fun x => [(x.1, min x.2 (s.1 - 1)), (max x.1 (s.2 + 1), x.2)]
def add (l : List S) (s : S) : List S := norm (l ++ [s])
def cut (l : List S) (s : S) : List S := if mayB s = true then norm (pieces s (norm l)) else norm l
def has (l : List S) (s : S) : Bool := mayB s && (norm l).any fun x => decide (x.1 ≤ s.1) && decide (s.2 ≤ x.2)
def meets (l : List S) (s : S) : Bool := mayB s && (norm l).any fun x => decide (x.1 ≤ s.2) && decide (s.1 ≤ x.2)
def size (s : S) : Int := s.2 - s.1 + 1
def first (l : List S) (many : Int) : S × Bool :=
  if many < 1 then ((0, 0), false) else
    match (norm l).find? fun s => decide (many ≤ size s) with
    | some s => ((s.1, s.1 + many - 1), true)
    | none => ((0, 0), false)
def total : List S → Int
  | [] => 0
  | s :: r => size s + total r
def count (l : List S) : Int := total (norm l)
def most : List S → Int
  | [] => 0
  | s :: r => max (size s) (most r)
def longest (l : List S) : Int := most (norm l)

theorem total_append (a b : List S) : total (a ++ b) = total a + total b := by
  induction a with
  | nil => simp [total]
  | cons s r ih => simp only [List.cons_append, total, ih]; omega
theorem total_take {l : List S} {k : Nat} (h : k < l.length) : total (l.take (k + 1)) = total (l.take k) + size l[k] := by
  rw [List.take_succ_eq_append_getElem h, total_append]; simp [total]
theorem size_bd {s : S} (h : mayB s = true) : 1 ≤ size s ∧ size s ≤ 1048576 := by
  have := mayB_iff.1 h; unfold size; omega
theorem total_bd {l : List S} (h : ∀ s ∈ l, mayB s = true) : 0 ≤ total l ∧ total l ≤ l.length * 1048576 := by
  induction l with
  | nil => simp [total]
  | cons s r ih =>
    have h1 := size_bd (h s (by simp))
    have h2 := ih fun x hx => h x (List.mem_cons_of_mem _ hx)
    simp only [total, List.length_cons]
    omega
theorem total_take_bd {l : List S} (h : ∀ s ∈ l, mayB s = true) (k : Nat) (hk : k ≤ l.length) : 0 ≤ total (l.take k) ∧ total (l.take k) ≤ k * 1048576 := by
  have := total_bd (l := l.take k) fun s hs => h s (List.mem_of_mem_take hs)
  rw [List.length_take, Nat.min_eq_left hk] at this
  exact this
theorem most_append (a b : List S) : most (a ++ b) = max (most a) (most b) := by
  induction a with
  | nil =>
    have : 0 ≤ most b := by
      induction b with
      | nil => simp [most]
      | cons s r ih => simp only [most]; omega
    simp only [List.nil_append, most]; omega
  | cons s r ih => simp only [List.cons_append, most, ih]; omega
theorem most_nonneg (b : List S) : 0 ≤ most b := by
  induction b with
  | nil => simp [most]
  | cons s r ih => simp only [most]; omega
theorem most_take {l : List S} {k : Nat} (h : k < l.length) : most (l.take (k + 1)) = max (most (l.take k)) (size l[k]) := by
  have := most_nonneg (l.take k)
  rw [List.take_succ_eq_append_getElem h, most_append]; simp only [most]; omega
theorem most_bd {l : List S} (h : ∀ s ∈ l, mayB s = true) : 0 ≤ most l ∧ most l ≤ 1048576 := by
  induction l with
  | nil => simp [most]
  | cons s r ih =>
    have h1 := size_bd (h s (by simp))
    have h2 := ih fun x hx => h x (List.mem_cons_of_mem _ hx)
    simp only [most]
    omega

theorem in_pieces {s : S} (hs : mayB s = true) {l : List S} (hl : ∀ x ∈ l, mayB x = true) (n : Int) : In (pieces s l) n ↔ In l n ∧ ¬ (s.1 ≤ n ∧ n ≤ s.2) := by
  have h := mayB_iff.1 hs
  induction l with
  | nil => simp [pieces, in_nil]
  | cons x r ih =>
    have hx := mayB_iff.1 (hl x (by simp))
    have hr : In (pieces s r) n ↔ In r n ∧ ¬ (s.1 ≤ n ∧ n ≤ s.2) := ih fun y hy => hl y (List.mem_cons_of_mem _ hy)
    have hp : pieces s (x :: r) = (x.1, min x.2 (s.1 - 1)) :: (max x.1 (s.2 + 1), x.2) :: pieces s r := rfl
    rw [hp, in_cons, in_cons, in_cons, hr]
    simp only [mayB_iff]
    constructor
    · rintro (h1 | h1 | h1)
      · exact ⟨.inl ⟨hx, by omega, by omega⟩, by omega⟩
      · exact ⟨.inl ⟨hx, by omega, by omega⟩, by omega⟩
      · exact ⟨.inr h1.1, h1.2⟩
    · rintro ⟨h1 | h1, h2⟩
      · by_cases h3 : n < s.1
        · exact .inl ⟨by omega, by omega, by omega⟩
        · exact .inr (.inl ⟨by omega, by omega, by omega⟩)
      · exact .inr (.inr ⟨h1, h2⟩)

theorem in_add (l : List S) (s : S) (n : Int) : In (add l s) n ↔ In l n ∨ (mayB s = true ∧ s.1 ≤ n ∧ n ≤ s.2) := by
  unfold add
  rw [(norm_ok _).2, in_append, in_cons]
  simp [in_nil]
theorem in_cut (l : List S) (s : S) (n : Int) : In (cut l s) n ↔ In l n ∧ ¬ (mayB s = true ∧ s.1 ≤ n ∧ n ≤ s.2) := by
  unfold cut
  split
  · rename_i h
    rw [(norm_ok _).2, in_pieces h ((norm_ok l).1.may), (norm_ok l).2]
    simp [h]
  · rename_i h
    rw [(norm_ok _).2]
    simp [h]
theorem cut_nrm (l : List S) (s : S) : Nrm (cut l s) := by
  unfold cut
  split
  · exact (norm_ok _).1
  · exact (norm_ok _).1
theorem add_nrm (l : List S) (s : S) : Nrm (add l s) := (norm_ok _).1

/-! ## what footplateref11's loops keep -/

theorem mem_take {α : Type} {l : List α} {k : Nat} (h : k < l.length) {x : α} : x ∈ l.take (k + 1) ↔ x ∈ l.take k ∨ x = l[k] := by
  rw [List.take_succ_eq_append_getElem h, List.mem_append, List.mem_singleton]

/-- within a round of 'last': from m up to m' all are there; b: it has grown -/
def LastIn (l : List S) (n m m' : Int) (b : Bool) (k : Nat) : Prop :=
  m ≤ m' ∧ m' ≤ 1048575 ∧ (∀ x, n < x → x ≤ m' → In l x) ∧ (b = false → m' = m ∧ ∀ s ∈ l.take k, mayB s = true → s.1 ≤ m + 1 → s.2 ≤ m) ∧ (b = true → m < m')
/-- at a round's head -/
def LastAt (l : List S) (n m : Int) (b : Bool) : Prop :=
  n ≤ m ∧ m ≤ 1048575 ∧ (∀ x, n < x → x ≤ m → In l x) ∧ (b = false → ∀ s ∈ l, mayB s = true → s.1 ≤ m + 1 → s.2 ≤ m)
theorem LastAt.first (l : List S) {n : Int} (h : n ≤ 1048575) : LastAt l n n true := ⟨Int.le_refl _, h, fun x h1 h2 => by omega, fun e => by cases e⟩
theorem LastAt.start {l : List S} {n m : Int} (h : LastAt l n m true) : LastIn l n m m false 0 := ⟨Int.le_refl _, h.2.1, h.2.2.1, fun _ => ⟨rfl, by simp⟩, fun e => by cases e⟩
theorem LastIn.skip {l : List S} {n m m' : Int} {b : Bool} {k : Nat} (h : LastIn l n m m' b k) (hk : k < l.length) (hs : mayB l[k] = true → l[k].1 ≤ m' + 1 → l[k].2 ≤ m') : LastIn l n m m' b (k + 1) := by
  obtain ⟨h1, h2, h3, h4, h5⟩ := h
  refine ⟨h1, h2, h3, fun hb => ⟨(h4 hb).1, fun s hs' hm h6 => ?_⟩, h5⟩
  have e := (h4 hb).1
  rcases (mem_take hk).1 hs' with h7 | rfl
  · exact (h4 hb).2 s h7 hm h6
  · subst e; exact hs hm h6
theorem LastIn.grow {l : List S} {n m m' : Int} {b : Bool} {k : Nat} (h : LastIn l n m m' b k) (hk : k < l.length) (hm : mayB l[k] = true) (h1 : l[k].1 ≤ m' + 1) (h2 : m' < l[k].2) : LastIn l n m l[k].2 true (k + 1) := by
  obtain ⟨g1, g2, g3, g4, g5⟩ := h
  have hb := mayB_iff.1 hm
  refine ⟨by omega, by omega, fun x hx1 hx2 => ?_, (fun e => by cases e), fun _ => by omega⟩
  by_cases hx : x ≤ m'
  · exact g3 x hx1 hx
  · exact ⟨l[k], List.getElem_mem hk, hm, by omega, hx2⟩
theorem LastIn.done {l : List S} {n m m' : Int} {b : Bool} {k : Nat} (h : LastIn l n m m' b k) (hn : n ≤ m) (hk : ¬ k < l.length) : LastAt l n m' b := by
  obtain ⟨g1, g2, g3, g4, g5⟩ := h
  refine ⟨by omega, g2, g3, fun hb s hs hm h1 => ?_⟩
  rw [List.take_of_length_le (by omega)] at g4
  obtain ⟨rfl, g⟩ := g4 hb
  exact g s hs hm h1
theorem LastIn.less {l : List S} {n m m' : Int} {b : Bool} {k : Nat} (h : LastIn l n m m' b k) (hn : 0 ≤ n) (hm : n ≤ m) : 2 * (1048576 - m'.toNat) + b.toNat < 2 * (1048576 - m.toNat) + 1 := by
  obtain ⟨g1, g2, g3, g4, g5⟩ := h
  cases b
  · have := (g4 rfl).1; simp; omega
  · have := g5 rfl; simp; omega

/-- the end of the last row; -1 if there is none -/
def bound (m : List S) : Int := match m.getLast? with | none => -1 | some s => s.2
theorem bound_nil : bound [] = -1 := rfl
theorem bound_last {m : List S} (h : 0 < m.length) : bound m = (m[m.length - 1]).2 := by
  unfold bound
  rw [List.getLast?_eq_getElem?, List.getElem?_eq_getElem (by omega)]
theorem bound_snoc (m : List S) (s : S) : bound (m ++ [s]) = s.2 := by simp [bound]
/-- what footplateref11.Norm has collected -/
def NormAt (l m : List S) : Prop :=
  Nrm m ∧ (∀ s ∈ m, s.2 ≤ bound m) ∧ -1 ≤ bound m ∧ bound m ≤ 1048575 ∧ (m.length : Int) ≤ bound m + 1 ∧ (∀ n, n ≤ bound m → (In m n ↔ In l n)) ∧ (m ≠ [] → ∀ s ∈ l, mayB s = true → s.1 ≤ bound m + 1 → s.2 ≤ bound m)
theorem NormAt.nil (l : List S) : NormAt l [] := ⟨trivial, by simp, by simp [bound_nil], by simp [bound_nil], by simp [bound_nil], fun n hn => by
  rw [bound_nil] at hn
  constructor
  · intro h; exact absurd h (in_nil n)
  · rintro ⟨s, _, hs, h1, _⟩; have := mayB_iff.1 hs; omega, fun h => absurd rfl h⟩
/-- the lowest first label behind the bound, among the first k -/
def LowAt (l m : List S) (at_ : Int) (k : Nat) : Prop :=
  (at_ = -1 ∧ ∀ s ∈ l.take k, mayB s = true → s.1 ≤ bound m) ∨ (0 ≤ at_ ∧ at_ ≤ 1048575 ∧ bound m < at_ ∧ (∃ s ∈ l, mayB s = true ∧ s.1 = at_) ∧ ∀ s ∈ l.take k, mayB s = true → bound m < s.1 → at_ ≤ s.1)
theorem LowAt.start (l m : List S) : LowAt l m (-1) 0 := .inl ⟨rfl, by simp⟩
theorem LowAt.skip {l m : List S} {a : Int} {k : Nat} (h : LowAt l m a k) (hk : k < l.length) (hs : mayB l[k] = true → bound m < l[k].1 → 0 ≤ a ∧ a ≤ l[k].1) : LowAt l m a (k + 1) := by
  rcases h with ⟨rfl, h⟩ | ⟨h1, h2, h3, h4, h5⟩
  · refine .inl ⟨rfl, fun s hs' hm => ?_⟩
    rcases (mem_take hk).1 hs' with h6 | rfl
    · exact h s h6 hm
    · by_cases hb : bound m < l[k].1
      · have := hs hm hb; omega
      · omega
  · refine .inr ⟨h1, h2, h3, h4, fun s hs' hm hb => ?_⟩
    rcases (mem_take hk).1 hs' with h6 | rfl
    · exact h5 s h6 hm hb
    · exact (hs hm hb).2
theorem LowAt.take {l m : List S} {a : Int} {k : Nat} (h : LowAt l m a k) (hk : k < l.length) (hm : mayB l[k] = true) (hb : bound m < l[k].1) (ha : a < 0 ∨ l[k].1 < a) : LowAt l m l[k].1 (k + 1) := by
  have hmm := mayB_iff.1 hm
  refine .inr ⟨hmm.1, by omega, hb, ⟨_, List.getElem_mem hk, hm, rfl⟩, fun s hs' hm' hb' => ?_⟩
  rcases (mem_take hk).1 hs' with h6 | rfl
  · rcases h with ⟨rfl, h⟩ | ⟨h1, h2, h3, h4, h5⟩
    · have := h s h6 hm'; omega
    · have := h5 s h6 hm' hb'; omega
  · exact Int.le_refl _
theorem LowAt.none {l m : List S} {a : Int} {k : Nat} (h : LowAt l m a k) (hN : NormAt l m) (hk : ¬ k < l.length) (ha : a < 0) : m = norm l := by
  rcases h with ⟨rfl, h⟩ | ⟨h1, _⟩
  · obtain ⟨n1, n2, n3, n4, n5, n6, n7⟩ := hN
    rw [List.take_of_length_le (by omega)] at h
    refine norm_of n1 fun n => ?_
    by_cases hn : n ≤ bound m
    · exact n6 n hn
    · constructor
      · rintro ⟨s, hs, _, _, h2⟩; have := n2 s hs; omega
      · rintro ⟨s, hs, hm, h1, h2⟩
        have hb := h s hs hm
        by_cases hmn : m = []
        · subst hmn; rw [bound_nil] at hb; have := mayB_iff.1 hm; omega
        · have := n7 hmn s hs hm (by omega); omega
  · omega
theorem LowAt.some {l m : List S} {a : Int} {k : Nat} (h : LowAt l m a k) (ha : ¬ a < 0) : 0 ≤ a ∧ a ≤ 1048575 ∧ bound m < a := by
  rcases h with ⟨rfl, _⟩ | ⟨h1, h2, h3, _⟩
  · omega
  · exact ⟨h1, h2, h3⟩
theorem LowAt.snoc {l m : List S} {a e : Int} {k : Nat} (h : LowAt l m a k) (hN : NormAt l m) (hk : ¬ k < l.length) (ha : ¬ a < 0) (h1 : a ≤ e) (h2 : e ≤ 1048575) (h3 : ∀ x, a < x → x ≤ e → In l x) (h4 : ∀ s ∈ l, mayB s = true → s.1 ≤ e + 1 → s.2 ≤ e) : NormAt l (m ++ [(a, e)]) := by
  rcases h with ⟨rfl, _⟩ | ⟨g1, g2, g3, ⟨s0, hs0, hm0, e0⟩, g5⟩
  · omega
  obtain ⟨n1, n2, n3, n4, n5, n6, n7⟩ := hN
  rw [List.take_of_length_le (by omega)] at g5
  have hgap : bound m + 1 < a ∨ m = [] := by
    by_cases hmn : m = []
    · exact .inr hmn
    · refine .inl ?_
      by_cases hx : a = bound m + 1
      · have := n7 hmn s0 hs0 hm0 (by omega); have := mayB_iff.1 hm0; omega
      · omega
  have hnm : ∀ (q : List S), Nrm q → (∀ s ∈ q, s.2 + 1 < a) → Nrm (q ++ [(a, e)]) := by
    intro q hq
    induction q with
    | nil => intro _; exact ⟨mayB_iff.2 ⟨g1, h1, h2⟩, by simp, trivial⟩
    | cons t r ih =>
      intro hb
      refine ⟨hq.1, fun y hy => ?_, ih hq.2.2 fun s hs => hb s (List.mem_cons_of_mem _ hs)⟩
      rcases List.mem_append.1 hy with hy | hy
      · exact hq.2.1 y hy
      · simp at hy; subst hy; exact hb t (by simp)
  refine ⟨hnm m n1 fun s hs => ?_, ?_, ?_, ?_, ?_, ?_, ?_⟩
  · rcases hgap with h | h
    · have := n2 s hs; omega
    · subst h; simp at hs
  · intro s hs
    rw [bound_snoc]
    rcases List.mem_append.1 hs with hs | hs
    · have := n2 s hs; simp only; omega
    · simp at hs; subst hs; exact Int.le_refl _
  · rw [bound_snoc]; simp only; omega
  · rw [bound_snoc]; exact h2
  · rw [bound_snoc]; simp; omega
  · intro n hn
    rw [bound_snoc] at hn
    rw [in_append, in_cons]
    simp only [in_nil, or_false]
    have hmay : mayB (a, e) = true := mayB_iff.2 ⟨g1, h1, h2⟩
    constructor
    · rintro (h | ⟨_, h5, h6⟩)
      · have hle : n ≤ bound m := by obtain ⟨s, hs, _, _, h2'⟩ := h; have := n2 s hs; omega
        exact (n6 n hle).1 h
      · by_cases hx : n = a
        · subst hx; exact ⟨s0, hs0, hm0, by omega, by have := mayB_iff.1 hm0; omega⟩
        · exact h3 n (by omega) hn
    · rintro ⟨s, hs, hm, h5, h6⟩
      by_cases hle : n ≤ bound m
      · exact .inl ((n6 n hle).2 ⟨s, hs, hm, h5, h6⟩)
      · refine .inr ⟨hmay, ?_, hn⟩
        by_cases hb : bound m < s.1
        · have := g5 s hs hm hb; omega
        · by_cases hmn : m = []
          · subst hmn; rw [bound_nil] at hb; have := mayB_iff.1 hm; omega
          · have := n7 hmn s hs hm (by omega); omega
  · intro _ s hs hm h5
    rw [bound_snoc] at h5 ⊢
    exact h4 s hs hm h5

/-! ## what spans.joined's loop keeps -/
def Rising (d : List S) : Prop := d.Pairwise fun a b => a.1 ≤ b.1
def jstep (m : List S) (s : S) : List S :=
  match m.getLast? with
  | none => [s]
  | some t => if s.1 ≤ t.2 + 1 then m.dropLast ++ [(t.1, max t.2 s.2)] else m ++ [s]
def joinF (l : List S) : List S := l.foldl jstep []
theorem joinF_snoc (l : List S) (s : S) : joinF (l ++ [s]) = jstep (joinF l) s := by simp [joinF]
theorem jstep_nil (s : S) : jstep [] s = [s] := rfl
theorem jstep_hit {m : List S} {s : S} {q : Nat} (hq : q < m.length) (e : q = m.length - 1) (h : s.1 ≤ m[q].2 + 1) : jstep m s = m.set q (m[q].1, max m[q].2 s.2) := by
  have hg : m.getLast? = some m[q] := by subst e; rw [List.getLast?_eq_getElem?, List.getElem?_eq_getElem]
  unfold jstep
  rw [hg]
  simp only [h, if_true]
  have hm : m = m.dropLast ++ [m[q]] := by
    have hne : m ≠ [] := by intro h0; subst h0; simp at hq
    have := List.dropLast_concat_getLast hne
    rw [List.getLast?_eq_some_getLast hne] at hg
    simp only [Option.some.injEq] at hg
    rw [← hg]; exact this.symm
  have hl : m.dropLast.length = q := by simp; omega
  generalize m[q] = x at hm ⊢
  generalize m.dropLast = p at hm hl ⊢
  subst hm
  subst hl
  simp [List.set_append]
theorem jstep_miss {m : List S} {s : S} {q : Nat} (hq : q < m.length) (e : q = m.length - 1) (h : ¬ s.1 ≤ m[q].2 + 1) : jstep m s = m ++ [s] := by
  have hg : m.getLast? = some m[q] := by subst e; rw [List.getLast?_eq_getElem?, List.getElem?_eq_getElem]
  unfold jstep
  rw [hg]
  simp only [h, if_false]
theorem jstep_length (m : List S) (s : S) : (jstep m s).length ≤ m.length + 1 := by
  unfold jstep
  cases h : m.getLast? with
  | none => simp
  | some t =>
    simp only
    split
    · simp; try omega
    · simp
theorem joinF_length (l : List S) : (joinF l).length ≤ l.length := by
  have h : ∀ (l m : List S), (l.foldl jstep m).length ≤ m.length + l.length := by
    intro l
    induction l with
    | nil => intro m; simp
    | cons s r ih => intro m; have h1 := ih (jstep m s); have h2 := jstep_length m s; simp only [List.foldl_cons, List.length_cons] at h1 ⊢; omega
  have := h l []
  unfold joinF
  simpa using this
/-- m, rising and apart, its last row t -/
def LastOf (m : List S) (t : S) : Prop := ∃ p, m = p ++ [t]
theorem nrm_snoc {p : List S} {t : S} : Nrm (p ++ [t]) ↔ Nrm p ∧ mayB t = true ∧ ∀ s ∈ p, s.2 + 1 < t.1 := by
  induction p with
  | nil => simp [Nrm]
  | cons a r ih =>
    simp only [List.cons_append, Nrm, ih, List.mem_append, List.mem_singleton, List.mem_cons, List.not_mem_nil, or_false]
    constructor
    · rintro ⟨h1, h2, h3, h4, h5⟩
      exact ⟨⟨h1, fun x hx => h2 x (.inl hx), h3⟩, h4, fun s hs => by rcases hs with rfl | hs; exact h2 t (.inr rfl); exact h5 s hs⟩
    · rintro ⟨⟨h1, h2, h3⟩, h4, h5⟩
      exact ⟨h1, fun x hx => by rcases hx with hx | rfl; exact h2 x hx; exact h5 a (.inl rfl), h3, h4, fun s hs => h5 s (.inr hs)⟩
theorem joinF_ok : ∀ {l : List S}, (∀ s ∈ l, mayB s = true) → Rising l → Nrm (joinF l) ∧ (∀ n, In (joinF l) n ↔ In l n) ∧ ∀ t ∈ joinF l, ∃ y ∈ l, y.1 = t.1 := by
  intro l
  have rev : ∀ (k : Nat) (l : List S), l.length = k → (∀ s ∈ l, mayB s = true) → Rising l → Nrm (joinF l) ∧ (∀ n, In (joinF l) n ↔ In l n) ∧ ∀ t ∈ joinF l, ∃ y ∈ l, y.1 = t.1 := by
    intro k
    induction k with
    | zero =>
      intro l h0 _ _
      have : l = [] := List.eq_nil_of_length_eq_zero h0
      subst this
      exact ⟨trivial, fun n => Iff.rfl, by simp [joinF]⟩
    | succ k ih =>
      intro l hl hm hr
      have hne : l ≠ [] := by intro h; subst h; simp at hl
      obtain ⟨p, s, rfl⟩ : ∃ p s, l = p ++ [s] := ⟨l.dropLast, l.getLast hne, (List.dropLast_concat_getLast hne).symm⟩
      have hpl : p.length = k := by simp at hl; exact hl
      have hmp : ∀ x ∈ p, mayB x = true := fun x hx => hm x (List.mem_append_left _ hx)
      have hs := hm s (by simp)
      have hrr := List.pairwise_append.1 hr
      obtain ⟨g1, g2, g3⟩ := ih p hpl hmp hrr.1
      have hps : ∀ x ∈ p, x.1 ≤ s.1 := fun x hx => hrr.2.2 x hx s (by simp)
      have hb := mayB_iff.1 hs
      rw [joinF_snoc]
      generalize joinF p = m at g1 g2 g3 ⊢
      by_cases hmn : m = []
      · subst hmn
        rw [jstep_nil]
        refine ⟨⟨hs, by simp, trivial⟩, fun n => ?_, fun t ht => ⟨s, by simp, by simp at ht; rw [ht]⟩⟩
        rw [in_cons, in_append, in_cons, ← g2]
        simp [in_nil]
      · obtain ⟨q, t, rfl⟩ : ∃ q t, m = q ++ [t] := ⟨m.dropLast, m.getLast hmn, (List.dropLast_concat_getLast hmn).symm⟩
        have hg : (q ++ [t]).getLast? = some t := by simp
        obtain ⟨n1, n2, n3⟩ := nrm_snoc.1 g1
        have hbt := mayB_iff.1 n2
        obtain ⟨y, hy, hyt⟩ := g3 t (by simp)
        have hts : t.1 ≤ s.1 := by have := hps y hy; omega
        unfold jstep
        rw [hg]
        simp only
        split
        · rename_i hh
          have hmx : mayB (t.1, max t.2 s.2) = true := mayB_iff.2 ⟨hbt.1, by simp only; omega, by simp only; omega⟩
          rw [List.dropLast_concat]
          refine ⟨nrm_snoc.2 ⟨n1, hmx, n3⟩, fun n => ?_, fun x hx => ?_⟩
          · rw [in_append, in_cons, in_append, in_cons, ← g2, in_append, in_cons]
            simp only [in_nil, or_false, hmx, n2, hs, true_and]
            constructor
            · rintro (h | h)
              · exact .inl (.inl h)
              · by_cases h' : n ≤ t.2
                · exact .inl (.inr ⟨h.1, h'⟩)
                · exact .inr ⟨by omega, by omega⟩
            · rintro ((h | h) | h)
              · exact .inl h
              · exact .inr ⟨h.1, by omega⟩
              · exact .inr ⟨by omega, by omega⟩
          · rcases List.mem_append.1 hx with hx | hx
            · obtain ⟨y', hy', e⟩ := g3 x (List.mem_append_left _ hx)
              exact ⟨y', List.mem_append_left _ hy', e⟩
            · simp at hx; subst hx; exact ⟨y, List.mem_append_left _ hy, hyt⟩
        · rename_i hh
          refine ⟨nrm_snoc.2 ⟨g1, hs, fun x hx => ?_⟩, fun n => ?_, fun x hx => ?_⟩
          · rcases List.mem_append.1 hx with hx | hx
            · have := n3 x hx; omega
            · simp at hx; subst hx; omega
          · rw [in_append, in_append (l := p), g2]
          · rcases List.mem_append.1 hx with hx | hx
            · obtain ⟨y', hy', e⟩ := g3 x hx
              exact ⟨y', List.mem_append_left _ hy', e⟩
            · simp at hx; subst hx; exact ⟨x, by simp, rfl⟩
  exact rev l.length l rfl
/-- a span that may be -/
abbrev SM := { s : S // mayB s = true }
def tm (l : List S) : List SM := l.filterMap fun s => if h : mayB s = true then some ⟨s, h⟩ else none
theorem tm_yes (l : List S) {s : S} (h : mayB s = true) : tm (l ++ [s]) = tm l ++ [⟨s, h⟩] := by simp [tm, List.filterMap_append, h]
theorem tm_no (l : List S) {s : S} (h : mayB s = false) : tm (l ++ [s]) = tm l := by simp [tm, List.filterMap_append, h]
theorem tm_map (l : List S) : (tm l).map (·.1) = l.filter mayB := by
  induction l with
  | nil => rfl
  | cons s r ih =>
    by_cases h : mayB s = true
    · simp only [tm, List.filterMap_cons, h, dif_pos, List.map_cons, List.filter_cons, if_true] at ih ⊢
      rw [ih]
    · simp only [tm, List.filterMap_cons, h, dif_neg, not_false_eq_true, List.filter_cons] at ih ⊢
      simpa using ih
theorem tm_length (l : List S) : (tm l).length ≤ l.length := List.length_filterMap_le _ _
theorem jstep_may {m : List S} {s : S} (hm : ∀ t ∈ m, mayB t = true) (hs : mayB s = true) : ∀ t ∈ jstep m s, mayB t = true := by
  intro x hx
  unfold jstep at hx
  cases hg : m.getLast? with
  | none => rw [hg] at hx; simp at hx; rw [hx]; exact hs
  | some t =>
    rw [hg] at hx
    have ht := mayB_iff.1 (hm t (List.mem_of_getLast? hg))
    have hs' := mayB_iff.1 hs
    simp only at hx
    split at hx
    · rcases List.mem_append.1 hx with hx | hx
      · exact hm x (List.dropLast_subset _ hx)
      · simp at hx; subst hx; exact mayB_iff.2 ⟨ht.1, by simp only; omega, by simp only; omega⟩
    · rcases List.mem_append.1 hx with hx | hx
      · exact hm x hx
      · simp at hx; subst hx; exact hs
theorem joinF_may (l : List SM) : ∀ t ∈ joinF (l.map (·.1)), mayB t = true := by
  have h : ∀ (l : List SM) (m : List S), (∀ t ∈ m, mayB t = true) → ∀ t ∈ (l.map (·.1)).foldl jstep m, mayB t = true := by
    intro l
    induction l with
    | nil => intro m hm; exact hm
    | cons s r ih => intro m hm; exact ih _ (jstep_may hm s.2)
  exact h l [] (by simp)
/-- those that right tells -/
def Told (l ys : List S) : Prop := ∃ d : List S, d.Perm l ∧ Rising d ∧ ys = d.filter mayB
theorem Told.join {l ys : List S} (h : Told l ys) : joinF ys = norm l := by
  obtain ⟨d, hp, hr, rfl⟩ := h
  have hm : ∀ s ∈ d.filter mayB, mayB s = true := fun s hs => (List.mem_filter.1 hs).2
  obtain ⟨h1, h2, _⟩ := joinF_ok hm (hr.filter _)
  refine norm_of h1 fun n => ?_
  rw [h2]
  constructor
  · rintro ⟨s, hs, h3⟩; exact ⟨s, hp.mem_iff.1 (List.mem_filter.1 hs).1, h3⟩
  · rintro ⟨s, hs, h3⟩; exact ⟨s, List.mem_filter.2 ⟨hp.mem_iff.2 hs, h3.1⟩, h3⟩

end Go.Proofs.YtilahcnpjbnjiaaGreatDoor.Sp

/- Plain facts for the laws of layer 11 that have no reference: a normal row's count is how many labels it has; what cut and add leave. No program in sight. -/
namespace Go.Proofs.YtilahcnpjbnjiaaGreatDoor.Sp
set_option linter.unusedVariables false
set_option linter.unusedSimpArgs false

/-- how many of 0, 1, .., N-1 have p -/
def cnt (p : Int → Bool) : Nat → Int
  | 0 => 0
  | n + 1 => cnt p n + if p n = true then 1 else 0
theorem cnt_congr {p q : Int → Bool} : ∀ {N : Nat}, (∀ n : Int, 0 ≤ n → n < N → p n = q n) → cnt p N = cnt q N
  | 0, _ => rfl
  | n + 1, h => by
    simp only [cnt]
    rw [cnt_congr (N := n) fun m h1 h2 => h m h1 (by omega), h n (by omega) (by omega)]
theorem cnt_or {p q r : Int → Bool} : ∀ {N : Nat}, (∀ n : Int, r n = (p n || q n)) → (∀ n : Int, ¬ (p n = true ∧ q n = true)) → cnt r N = cnt p N + cnt q N
  | 0, _, _ => rfl
  | n + 1, h, hd => by
    simp only [cnt]
    rw [cnt_or (N := n) h hd, h n]
    have := hd n
    cases hp : p n <;> cases hq : q n <;> simp_all <;> omega
theorem cnt_none {p : Int → Bool} : ∀ {N : Nat}, (∀ n : Int, p n = false) → cnt p N = 0
  | 0, _ => rfl
  | n + 1, h => by simp only [cnt]; rw [cnt_none (N := n) h, h n]; rfl
theorem cnt_span (a b : Int) (ha : 0 ≤ a) (hb : a ≤ b) : ∀ (N : Nat), cnt (fun n => decide (a ≤ n) && decide (n ≤ b)) N = if (N : Int) ≤ a then 0 else if (N : Int) ≤ b then N - a else b - a + 1
  | 0 => by simp [cnt, ha]
  | n + 1 => by
    simp only [cnt]
    rw [cnt_span a b ha hb n]
    by_cases h1 : (n : Int) < a
    · rw [if_pos (by omega), if_neg (by simp; omega), if_pos (by push_cast; omega)]; rfl
    · by_cases h2 : (n : Int) ≤ b
      · rw [if_pos (show (decide (a ≤ (n : Int)) && decide ((n : Int) ≤ b)) = true by simp; omega)]
        push_cast
        split <;> split <;> (try split) <;> omega
      · rw [if_neg (show ¬ (decide (a ≤ (n : Int)) && decide ((n : Int) ≤ b)) = true by simp; omega)]
        push_cast
        split <;> split <;> (try split) <;> omega

theorem cnt_size {s : S} (h : mayB s = true) {N : Nat} (hN : (1048576 : Int) ≤ N) : cnt (fun n => decide (s.1 ≤ n) && decide (n ≤ s.2)) N = size s := by
  obtain ⟨h1, h2, h3⟩ := mayB_iff.1 h
  rw [cnt_span s.1 s.2 h1 h2 N, if_neg (by omega), if_neg (by omega)]
  rfl

theorem Nrm.low {s : S} {r : List S} (h : Nrm (s :: r)) {n : Int} (hn : In r n) : s.2 < n := by
  obtain ⟨t, ht, _, h1, _⟩ := hn
  have := h.2.1 t ht
  omega

theorem total_cnt {N : Nat} (hN : (1048576 : Int) ≤ N) : ∀ {m : List S}, Nrm m → total m = cnt (inB m) N
  | [], _ => by rw [cnt_none (p := inB []) (fun n => rfl)]; rfl
  | s :: r, h => by
    have ih := total_cnt hN h.2.2
    simp only [total]
    rw [ih, ← cnt_size h.1 hN]
    symm
    refine cnt_or (fun n => ?_) (fun n ⟨h1, h2⟩ => ?_)
    · simp [inB, h.1]
    · have := h.low (inB_iff.1 h2)
      simp at h1
      omega

theorem count_cnt {N : Nat} (hN : (1048576 : Int) ≤ N) (l : List S) : count l = cnt (inB l) N := by
  unfold count
  rw [total_cnt hN (norm_ok l).1]
  exact cnt_congr fun n _ _ => inB_of ((inB_iff).trans ((norm_ok l).2 n).symm)

theorem in_one (s : S) (n : Int) : In [s] n ↔ (mayB s = true ∧ s.1 ≤ n ∧ n ≤ s.2) := by simp [In]

/-- with a span there are as many labels as without it, and as it has -/
theorem count_add (l : List S) (s : S) : count (add l s) = count (cut l s) + count [s] := by
  obtain ⟨N, hN⟩ : ∃ N : Nat, (1048576 : Int) ≤ N := ⟨1048576, by omega⟩
  rw [count_cnt hN, count_cnt hN, count_cnt hN]
  refine cnt_or (fun n => ?_) (fun n ⟨h1, h2⟩ => ?_)
  · refine inB_of ?_
    rw [in_add, Bool.or_eq_true, inB_iff, inB_iff, in_cut, in_one]
    by_cases h : mayB s = true ∧ s.1 ≤ n ∧ n ≤ s.2 <;> simp [h]
  · rw [inB_iff] at h1 h2
    exact ((in_cut l s n).1 h1).2 ((in_one s n).1 h2)

theorem cut_cut (l : List S) (s : S) : cut (cut l s) s = cut l s :=
  Nrm.uniq (cut_nrm _ _) (cut_nrm _ _) fun n => by rw [in_cut, in_cut]; by_cases h : mayB s = true ∧ s.1 ≤ n ∧ n ≤ s.2 <;> simp [h]
theorem add_add (l : List S) (s : S) : add (add l s) s = add l s :=
  Nrm.uniq (add_nrm _ _) (add_nrm _ _) fun n => by rw [in_add, in_add]; by_cases h : mayB s = true ∧ s.1 ≤ n ∧ n ≤ s.2 <;> simp [h]
theorem add_cut (l : List S) (s : S) : add (cut l s) s = add l s :=
  Nrm.uniq (add_nrm _ _) (add_nrm _ _) fun n => by rw [in_add, in_add, in_cut]; by_cases h : mayB s = true ∧ s.1 ≤ n ∧ n ≤ s.2 <;> simp [h]

/-- what a span of labels that all lie in a normal row has: one of the row's spans holds it -/
theorem Nrm.whole : ∀ {m : List S}, Nrm m → ∀ {a : Int} {k : Nat}, (∀ n : Int, a ≤ n → n ≤ a + k → In m n) → ∃ t ∈ m, t.1 ≤ a ∧ a + k ≤ t.2
  | [], _, a, k, h => absurd (h a (Int.le_refl _) (by omega)) (in_nil _)
  | s :: r, hm, a, k, h => by
    rcases in_cons.1 (h a (Int.le_refl _) (by omega)) with ⟨_, h1, h2⟩ | h1
    · by_cases hk : a + k ≤ s.2
      · exact ⟨s, List.mem_cons_self, h1, hk⟩
      · rcases in_cons.1 (h (s.2 + 1) (by omega) (by omega)) with ⟨_, _, h3⟩ | ⟨t, ht, _, h3, _⟩
        · omega
        · have := hm.2.1 t ht
          omega
    · have hlow := hm.low h1
      obtain ⟨t, ht, h3, h4⟩ := hm.2.2.whole (a := a) (k := k) fun n h5 h6 => by
        rcases in_cons.1 (h n h5 h6) with ⟨_, _, h7⟩ | h7
        · omega
        · exact h7
      exact ⟨t, List.mem_cons_of_mem _ ht, h3, h4⟩

theorem most_le {m : List S} {b : Int} (h0 : 0 ≤ b) (h : ∀ s ∈ m, size s ≤ b) : most m ≤ b := by
  induction m with
  | nil => exact h0
  | cons s r ih =>
    simp only [most]
    have h1 := h s List.mem_cons_self
    have h2 := ih fun t ht => h t (List.mem_cons_of_mem _ ht)
    omega
theorem le_most {m : List S} {s : S} (h : s ∈ m) : size s ≤ most m := by
  induction m with
  | nil => simp at h
  | cons t r ih =>
    simp only [most]
    rcases List.mem_cons.1 h with rfl | h
    · omega
    · have := ih h; omega

/-- more labels: no shorter longest run -/
theorem longest_mono {l m : List S} (h : ∀ n, In l n → In m n) : longest l ≤ longest m := by
  refine most_le (most_nonneg _) fun s hs => ?_
  have hm := (norm_ok l).1.may s hs
  obtain ⟨h1, h2, h3⟩ := mayB_iff.1 hm
  obtain ⟨k, hk⟩ : ∃ k : Nat, s.2 = s.1 + k := ⟨(s.2 - s.1).toNat, by omega⟩
  obtain ⟨t, ht, h4, h5⟩ := (norm_ok m).1.whole (a := s.1) (k := k) fun n h6 h7 => ((norm_ok m).2 n).2 (h n (((norm_ok l).2 n).1 ⟨s, hs, hm, h6, by omega⟩))
  have := le_most ht
  simp only [size] at this ⊢
  unfold longest
  omega
theorem longest_add (l : List S) (s : S) : longest l ≤ longest (add l s) := longest_mono fun n h => (in_add l s n).2 (.inl h)

theorem has_in {l : List S} {s : S} (h : has l s = true) : mayB s = true ∧ ∀ n, s.1 ≤ n → n ≤ s.2 → In l n := by
  simp only [has, Bool.and_eq_true, List.any_eq_true, decide_eq_true_eq] at h
  obtain ⟨hm, x, hx, h1, h2⟩ := h
  exact ⟨hm, fun n h3 h4 => ((norm_ok l).2 n).1 ⟨x, hx, (norm_ok l).1.may x hx, by omega, by omega⟩⟩
theorem meets_no {l : List S} {s : S} (h : meets l s = false) : ∀ n, ¬ (In l n ∧ mayB s = true ∧ s.1 ≤ n ∧ n ≤ s.2) := by
  intro n ⟨h1, hm, h2, h3⟩
  obtain ⟨x, hx, hxm, h4, h5⟩ := ((norm_ok l).2 n).2 h1
  have : meets l s = true := by
    simp only [meets, hm, Bool.true_and, List.any_eq_true, Bool.and_eq_true, decide_eq_true_eq]
    exact ⟨x, hx, by omega, by omega⟩
  rw [h] at this
  cases this
theorem no_meets {l : List S} {s : S} (h : ∀ n, ¬ (In l n ∧ mayB s = true ∧ s.1 ≤ n ∧ n ≤ s.2)) : meets l s = false := by
  cases hm : meets l s with
  | false => rfl
  | true =>
    exfalso
    simp only [meets, Bool.and_eq_true, List.any_eq_true, decide_eq_true_eq] at hm
    obtain ⟨hs, x, hx, h1, h2⟩ := hm
    have hxm := (norm_ok l).1.may x hx
    obtain ⟨a1, a2, a3⟩ := mayB_iff.1 hs
    obtain ⟨b1, b2, b3⟩ := mayB_iff.1 hxm
    by_cases hc : x.1 ≤ s.1
    · exact h s.1 ⟨((norm_ok l).2 _).1 ⟨x, hx, hxm, hc, by omega⟩, hs, Int.le_refl _, by omega⟩
    · exact h x.1 ⟨((norm_ok l).2 _).1 ⟨x, hx, hxm, Int.le_refl _, by omega⟩, hs, by omega, by omega⟩

theorem cut_add_back {l : List S} {s : S} (h : meets l s = false) : cut (add l s) s = norm l :=
  Nrm.uniq (cut_nrm _ _) (norm_ok l).1 fun n => by
    rw [in_cut, in_add, (norm_ok l).2 n]
    have := meets_no h n
    by_cases h1 : mayB s = true ∧ s.1 ≤ n ∧ n ≤ s.2
    · have h2 : ¬ In l n := fun hi => this ⟨hi, h1⟩
      simp [h1, h2]
    · simp [h1]
theorem meets_cut (l : List S) (s : S) : meets (cut l s) s = false := no_meets fun n ⟨h1, h2⟩ => ((in_cut l s n).1 h1).2 h2
theorem add_cut_back {l : List S} {s : S} (h : has l s = true) : add (cut l s) s = norm l :=
  Nrm.uniq (add_nrm _ _) (norm_ok l).1 fun n => by
    rw [in_add, in_cut, (norm_ok l).2 n]
    obtain ⟨hm, hi⟩ := has_in h
    by_cases h1 : s.1 ≤ n ∧ n ≤ s.2
    · simp [hm, h1, hi n h1.1 h1.2]
    · simp [h1]
theorem count_norm (l : List S) : count (norm l) = count l := by unfold count; rw [norm_norm]
theorem count_one {s : S} (h : mayB s = true) : count [s] = size s := by
  have : norm [s] = [s] := norm_self ⟨h, by simp, trivial⟩
  unfold count
  rw [this]
  simp [total]
theorem count_cut {l : List S} {s : S} (h : has l s = true) : count (cut l s) = count l - size s := by
  have h1 := count_add (cut l s) s
  rw [cut_cut, add_cut_back h, count_norm, count_one (has_in h).1] at h1
  omega

/-- the lowest run: none -/
theorem first_no {l : List S} {many : Int} (h : (first l many).2 = false) : first l many = ((0, 0), false) ∧ (many < 1 ∨ longest l < many) := by
  unfold first at h ⊢
  by_cases h1 : many < 1
  · rw [if_pos h1]; exact ⟨rfl, .inl h1⟩
  · rw [if_neg h1] at h ⊢
    cases hf : (norm l).find? fun s => decide (many ≤ size s) with
    | some s => rw [hf] at h; cases h
    | none =>
      refine ⟨rfl, .inr ?_⟩
      rw [List.find?_eq_none] at hf
      have : longest l ≤ many - 1 := most_le (by omega) fun s hs => by have := hf s hs; simp at this; omega
      omega
/-- the lowest run: there is one -/
theorem first_yes {l : List S} {many : Int} {f : S} (h : first l many = (f, true)) : has l f = true ∧ size f = many ∧ mayB f = true := by
  unfold first at h
  by_cases h1 : many < 1
  · rw [if_pos h1] at h; cases h
  · rw [if_neg h1] at h
    cases hf : (norm l).find? fun s => decide (many ≤ size s) with
    | none => rw [hf] at h; cases h
    | some s =>
      rw [hf] at h
      simp only [Prod.mk.injEq, and_true] at h
      subst h
      have hs := List.mem_of_find?_eq_some hf
      have hc := List.find?_some hf
      have hc : many ≤ s.2 - s.1 + 1 := of_decide_eq_true hc
      obtain ⟨a1, a2, a3⟩ := mayB_iff.1 ((norm_ok l).1.may s hs)
      have hm : mayB (s.1, s.1 + many - 1) = true := mayB_iff.2 ⟨a1, by simp only; omega, by simp only; omega⟩
      refine ⟨?_, by simp only [size]; omega, hm⟩
      simp only [has, hm, Bool.true_and, List.any_eq_true, Bool.and_eq_true, decide_eq_true_eq]
      exact ⟨s, hs, Int.le_refl _, by omega⟩

theorem nrm_step : ∀ {m : List S}, Nrm m → ∀ {i : Nat} (h : i + 1 < m.length), m[i].2 + 1 < m[i + 1].1
  | s :: r, hm, 0, h => by
    have hr : 0 < r.length := by simpa using h
    simpa using hm.2.1 r[0] (List.getElem_mem _)
  | s :: r, hm, i + 1, h => by
    have := nrm_step hm.2.2 (i := i) (by simpa using h)
    simpa using this

theorem inB_norm (l : List S) (n : Int) : inB (norm l) n = inB l n := inB_of (inB_iff.trans ((norm_ok l).2 n).symm)
theorem inB_add (l : List S) (s : S) (n : Int) : inB (add l s) n = (inB l n || inB [s] n) :=
  inB_of (by rw [Bool.or_eq_true, inB_iff, inB_iff, in_add, in_one])
theorem inB_cut (l : List S) (s : S) (n : Int) : inB (cut l s) n = (inB l n && !inB [s] n) :=
  inB_of (by
    rw [Bool.and_eq_true, inB_iff, in_cut, ← in_one, ← inB_iff (l := [s])]
    cases inB [s] n <;> simp)
end Go.Proofs.YtilahcnpjbnjiaaGreatDoor.Sp

/- Plain law of layer 12: labels that are owned, and those that are left. -/
namespace Go.Proofs.YtilahcnpjbnjiaaGreatDoor.Sp
set_option linter.unusedVariables false
set_option linter.unusedSimpArgs false

/-- a block; a space -/
structure Bk where
  sp : S
  owner : Int
  area : Int
deriving DecidableEq
structure Spc where
  a1 : S
  a2 : S
  L : List Bk
def Spc.at (m : Spc) (k : Int) : S := if k = 1 then m.a1 else if k = 2 then m.a2 else (0, 0)
def Spc.lay (m : Spc) (k : Int) (s : S) : Spc := if k = 1 then { m with a1 := s } else { m with a2 := s }
def whole : List S := [(16, 1048575)]
def cutAll (l : List S) (L : List Bk) : List S := L.foldl (fun l b => cut l b.sp) l
def base0 (m : Spc) : List S := if 0 < m.a2.1 then cut (if m.a1.1 = 0 then whole else cut whole m.a1) m.a2 else (if m.a1.1 = 0 then whole else cut whole m.a1)
def leftR (m : Spc) (k : Int) : List S := if k < 0 ∨ 2 < k ∨ (0 < k ∧ (m.at k).1 = 0) then [] else cutAll (if k = 0 then base0 m else [m.at k]) m.L
def owns (s : S) : Bool := decide (16 ≤ s.1) && decide (s.1 ≤ s.2) && decide (s.2 ≤ 1048575)
theorem owns_iff {s : S} : owns s = true ↔ 16 ≤ s.1 ∧ s.1 ≤ s.2 ∧ s.2 ≤ 1048575 := by simp [owns, and_assoc]
theorem owns_may {s : S} (h : owns s = true) : mayB s = true := by rw [owns_iff] at h; rw [mayB_iff]; omega

/-- what a space keeps -/
structure WF (m : Spc) : Prop where
  w1 : m.a1 = (0, 0) ∨ owns m.a1 = true
  w2 : m.a2 = (0, 0) ∨ owns m.a2 = true
  dis : m.a1.2 < m.a2.1 ∨ m.a2.2 < m.a1.1 ∨ m.a1 = (0, 0) ∨ m.a2 = (0, 0)
  ok : ∀ b ∈ m.L, owns b.sp = true ∧ 1 ≤ b.owner ∧ 0 ≤ b.area ∧ b.area ≤ 2
  inn : ∀ b ∈ m.L, 0 < b.area → (m.at b.area).1 ≠ 0 ∧ (m.at b.area).1 ≤ b.sp.1 ∧ b.sp.2 ≤ (m.at b.area).2
  out : ∀ b ∈ m.L, b.area = 0 → (b.sp.2 < m.a1.1 ∨ m.a1.2 < b.sp.1) ∧ (b.sp.2 < m.a2.1 ∨ m.a2.2 < b.sp.1)
  srt : m.L.Pairwise fun a b => a.sp.2 < b.sp.1

/-- is a label owned? does it lie where an area is? -/
def ownB (m : Spc) (n : Int) : Bool := m.L.any fun b => decide (b.sp.1 ≤ n) && decide (n ≤ b.sp.2)
def reg (m : Spc) (k n : Int) : Bool := if k = 0 then decide (16 ≤ n ∧ n ≤ 1048575 ∧ ¬ (m.a1.1 ≤ n ∧ n ≤ m.a1.2 ∧ m.a1.1 ≠ 0) ∧ ¬ (m.a2.1 ≤ n ∧ n ≤ m.a2.2 ∧ m.a2.1 ≠ 0))
  else decide ((m.at k).1 ≠ 0 ∧ (m.at k).1 ≤ n ∧ n ≤ (m.at k).2)
theorem in_cutAll : ∀ (L : List Bk) (l : List S) (n : Int), In (cutAll l L) n ↔ In l n ∧ ¬ ∃ b ∈ L, mayB b.sp = true ∧ b.sp.1 ≤ n ∧ n ≤ b.sp.2
  | [], l, n => by simp [cutAll]
  | b :: L, l, n => by
    have ih := in_cutAll L (cut l b.sp) n
    unfold cutAll at ih ⊢
    rw [List.foldl_cons, ih, in_cut]
    constructor
    · rintro ⟨⟨h1, h2⟩, h3⟩
      refine ⟨h1, ?_⟩
      rintro ⟨c, hc, h4⟩
      rcases List.mem_cons.1 hc with rfl | hc
      · exact h2 h4
      · exact h3 ⟨c, hc, h4⟩
    · rintro ⟨h1, h2⟩
      exact ⟨⟨h1, fun h => h2 ⟨b, by simp, h⟩⟩, fun ⟨c, hc, h⟩ => h2 ⟨c, by simp [hc], h⟩⟩
theorem cutAll_nrm : ∀ (L : List Bk) {l : List S}, Nrm l → Nrm (cutAll l L)
  | [], l, h => h
  | b :: L, l, h => cutAll_nrm L (cut_nrm l b.sp)
theorem own_iff {m : Spc} {n : Int} : ownB m n = true ↔ ∃ b ∈ m.L, b.sp.1 ≤ n ∧ n ≤ b.sp.2 := by simp [ownB]
theorem one_nrm {s : S} (h : mayB s = true) : Nrm [s] := ⟨h, by simp, trivial⟩
theorem in_one' (s : S) (n : Int) : In [s] n ↔ (mayB s = true ∧ s.1 ≤ n ∧ n ≤ s.2) := by simp [In]
theorem WF.at_ {m : Spc} (h : WF m) (k : Int) : m.at k = (0, 0) ∨ owns (m.at k) = true := by
  unfold Spc.at
  split
  · exact h.w1
  · split
    · exact h.w2
    · exact Or.inl rfl
theorem WF.at_pos {m : Spc} (h : WF m) (k : Int) : (m.at k).1 = 0 ↔ m.at k = (0, 0) := by
  constructor
  · intro h0
    rcases h.at_ k with h1 | h1
    · exact h1
    · rw [owns_iff] at h1; omega
  · intro h0; rw [h0]
theorem base0_ok {m : Spc} (h : WF m) : Nrm (base0 m) ∧ ∀ n, In (base0 m) n ↔ reg m 0 n = true := by
  have hw : mayB ((16, 1048575) : S) = true := by decide
  have h1 : Nrm (if m.a1.1 = 0 then whole else cut whole m.a1) ∧ ∀ n, In (if m.a1.1 = 0 then whole else cut whole m.a1) n ↔ (16 ≤ n ∧ n ≤ 1048575 ∧ ¬ (m.a1.1 ≤ n ∧ n ≤ m.a1.2 ∧ m.a1.1 ≠ 0)) := by
    split
    · rename_i h0
      refine ⟨one_nrm hw, fun n => ?_⟩
      unfold whole
      rw [in_one']
      simp [hw, h0]
    · rename_i h0
      have hm : mayB m.a1 = true := by
        rcases h.w1 with e | e
        · rw [e] at h0; exact absurd rfl h0
        · exact owns_may e
      refine ⟨cut_nrm _ _, fun n => ?_⟩
      rw [in_cut]
      unfold whole
      rw [in_one']
      simp only [hw, hm, true_and]
      constructor
      · rintro ⟨⟨a, b⟩, c⟩; exact ⟨a, b, fun d => c ⟨d.1, d.2.1⟩⟩
      · rintro ⟨a, b, c⟩; exact ⟨⟨a, b⟩, fun d => c ⟨d.1, d.2, h0⟩⟩
  obtain ⟨n1, i1⟩ := h1
  unfold base0
  split
  · rename_i h0
    have hm : mayB m.a2 = true := by
      rcases h.w2 with e | e
      · rw [e] at h0; exact absurd h0 (by decide)
      · exact owns_may e
    refine ⟨cut_nrm _ _, fun n => ?_⟩
    rw [in_cut, i1]
    simp only [reg, if_true, decide_eq_true_eq, hm, true_and]
    constructor
    · rintro ⟨⟨a, b, c⟩, d⟩; exact ⟨a, b, c, fun e => d ⟨e.1, e.2.1⟩⟩
    · rintro ⟨a, b, c, d⟩; exact ⟨⟨a, b, c⟩, fun e => d ⟨e.1, e.2, by omega⟩⟩
  · rename_i h0
    refine ⟨n1, fun n => ?_⟩
    rw [i1]
    have h00 : m.a2.1 = 0 := by
      rcases h.w2 with e | e
      · rw [e]
      · rw [owns_iff] at e; omega
    simp only [reg, if_true, decide_eq_true_eq]
    constructor
    · rintro ⟨a, b, c⟩; exact ⟨a, b, c, fun e => e.2.2 h00⟩
    · rintro ⟨a, b, c, _⟩; exact ⟨a, b, c⟩
/-- what is left, as labels -/
theorem left_ok {m : Spc} (h : WF m) (k : Int) : Nrm (leftR m k) ∧ (0 ≤ k → k ≤ 2 → ∀ n, inB (leftR m k) n = (reg m k n && !ownB m n)) := by
  unfold leftR
  by_cases hk : k < 0 ∨ 2 < k ∨ (0 < k ∧ (m.at k).1 = 0)
  · rw [if_pos hk]
    refine ⟨trivial, fun h0 h2 n => ?_⟩
    have : reg m k n = false := by
      unfold reg
      rw [if_neg (by omega)]
      simp only [decide_eq_false_iff_not]
      omega
    rw [this, Bool.false_and]
    simp [inB]
  · rw [if_neg hk]
    have hb : Nrm (if k = 0 then base0 m else [m.at k]) ∧ ∀ n, In (if k = 0 then base0 m else [m.at k]) n ↔ reg m k n = true := by
      by_cases h0 : k = 0
      · subst h0
        rw [if_pos rfl]
        exact base0_ok h
      · rw [if_neg h0]
        have hm : mayB (m.at k) = true := by
          rcases h.at_ k with e | e
          · exact absurd (Or.inr (Or.inr ⟨by omega, by rw [e]⟩)) hk
          · exact owns_may e
        refine ⟨one_nrm hm, fun n => ?_⟩
        rw [in_one']
        unfold reg
        rw [if_neg h0]
        simp only [hm, true_and, decide_eq_true_eq]
        constructor
        · intro hh; exact ⟨by omega, hh⟩
        · intro hh; exact hh.2
    refine ⟨cutAll_nrm _ hb.1, fun h0 h2 n => ?_⟩
    apply inB_of
    rw [in_cutAll, hb.2, Bool.and_eq_true, Bool.not_eq_true', ← Bool.not_eq_true, own_iff]
    refine and_congr_right fun _ => not_congr ⟨fun ⟨b, hb, h1⟩ => ⟨b, hb, (h.ok b hb).elim fun ho _ => ⟨owns_may ho, h1⟩⟩, fun ⟨b, hb, h1⟩ => ⟨b, hb, h1.2⟩⟩
/-- what has just the labels that are left is what is left -/
theorem left_is {m : Spc} (h : WF m) {k : Int} (h0 : 0 ≤ k) (h2 : k ≤ 2) {l : List S} (hn : Nrm l) (hi : ∀ n, inB l n = (reg m k n && !ownB m n)) : l = leftR m k :=
  Nrm.uniq hn (left_ok h k).1 fun n => by rw [← inB_iff, ← inB_iff, hi, (left_ok h k).2 h0 h2]
/-- the labels of a span that is left -/
theorem has_left {m : Spc} (h : WF m) {k : Int} (h0 : 0 ≤ k) (h2 : k ≤ 2) {s : S} (hs : has (leftR m k) s = true) : mayB s = true ∧ ∀ n, s.1 ≤ n → n ≤ s.2 → reg m k n = true ∧ ownB m n = false := by
  obtain ⟨h3, h4⟩ := has_in hs
  refine ⟨h3, fun n h5 h6 => ?_⟩
  have h7 := inB_iff.2 (h4 n h5 h6)
  rw [(left_ok h k).2 h0 h2, Bool.and_eq_true, Bool.not_eq_true'] at h7
  exact h7
theorem reg_bd {m : Spc} (h : WF m) {k n : Int} (hr : reg m k n = true) : 16 ≤ n ∧ n ≤ 1048575 := by
  unfold reg at hr
  split at hr
  · simp only [decide_eq_true_eq] at hr; exact ⟨hr.1, hr.2.1⟩
  · simp only [decide_eq_true_eq] at hr
    rcases h.at_ k with e | e
    · rw [e] at hr; exact absurd rfl hr.1
    · rw [owns_iff] at e; omega
theorem has_owns {m : Spc} (h : WF m) {k : Int} (h0 : 0 ≤ k) (h2 : k ≤ 2) {s : S} (hs : has (leftR m k) s = true) : owns s = true := by
  obtain ⟨h3, h4⟩ := has_left h h0 h2 hs
  rw [mayB_iff] at h3
  have a := reg_bd h (h4 s.1 (Int.le_refl _) h3.2.1).1
  rw [owns_iff]; omega
theorem reg_zero {m : Spc} {n : Int} : reg m 0 n = true ↔ 16 ≤ n ∧ n ≤ 1048575 ∧ ¬ (m.a1.1 ≤ n ∧ n ≤ m.a1.2 ∧ m.a1.1 ≠ 0) ∧ ¬ (m.a2.1 ≤ n ∧ n ≤ m.a2.2 ∧ m.a2.1 ≠ 0) := by simp only [reg, if_true, decide_eq_true_eq]
theorem reg_one {m : Spc} {n : Int} : reg m 1 n = true ↔ m.a1.1 ≠ 0 ∧ m.a1.1 ≤ n ∧ n ≤ m.a1.2 := by simp [reg, Spc.at]
theorem reg_two {m : Spc} {n : Int} : reg m 2 n = true ↔ m.a2.1 ≠ 0 ∧ m.a2.1 ≤ n ∧ n ≤ m.a2.2 := by simp [reg, Spc.at]
theorem block_own {m : Spc} {b : Bk} (hb : b ∈ m.L) {n : Int} (h1 : b.sp.1 ≤ n) (h2 : n ≤ b.sp.2) : ownB m n = true := own_iff.2 ⟨b, hb, h1, h2⟩
theorem inB_one' {s : S} (h : mayB s = true) (n : Int) : inB [s] n = (decide (s.1 ≤ n) && decide (n ≤ s.2)) := inB_of (by rw [in_one]; simp [h])

/-- an area is laid out -/
theorem carve_ok {m : Spc} (h : WF m) {k : Int} (hk : k = 1 ∨ k = 2) {s : S} (hz : (m.at k).1 = 0) (hs : has (leftR m 0) s = true) :
    WF (m.lay k s) ∧ leftR (m.lay k s) 0 = cut (leftR m 0) s ∧ leftR (m.lay k s) k = add (leftR m k) s ∧ leftR (m.lay k s) (3 - k) = leftR m (3 - k) := by
  obtain ⟨hm, hl⟩ := has_left h (by omega) (by omega) hs
  have ho := has_owns h (by omega) (by omega) hs
  have ho' := owns_iff.1 ho
  have hzz := (h.at_pos k).1 hz
  have hblk : ∀ b ∈ m.L, b.sp.2 < s.1 ∨ s.2 < b.sp.1 := by
    intro b hb
    have hbo := owns_iff.1 (h.ok b hb).1
    by_cases h1 : b.sp.2 < s.1
    · exact Or.inl h1
    · by_cases h2 : s.2 < b.sp.1
      · exact Or.inr h2
      · have h3 := (hl (max s.1 b.sp.1) (by omega) (by omega)).2
        rw [block_own hb (by omega) (by omega)] at h3
        cases h3
  have hdis : ∀ t : S, (t = m.a1 ∨ t = m.a2) → owns t = true → t.2 < s.1 ∨ s.2 < t.1 := by
    intro t ht hto
    have hto' := owns_iff.1 hto
    by_cases h1 : t.2 < s.1
    · exact Or.inl h1
    · by_cases h2 : s.2 < t.1
      · exact Or.inr h2
      · have h3 := reg_zero.1 (hl (max s.1 t.1) (by omega) (by omega)).1
        rcases ht with rfl | rfl <;> omega
  have hown : ∀ n, ownB (m.lay k s) n = ownB m n := by
    intro n; unfold Spc.lay; split <;> rfl
  have hwf : WF (m.lay k s) := by
    rcases hk with rfl | rfl
    · have e : m.lay 1 s = { m with a1 := s } := rfl
      have hz1 : m.a1 = (0, 0) := hzz
      rw [e]
      refine ⟨Or.inr ho, h.w2, ?_, h.ok, ?_, ?_, h.srt⟩
      · rcases h.w2 with e2 | e2
        · exact Or.inr (Or.inr (Or.inr e2))
        · rcases hdis m.a2 (Or.inr rfl) e2 with h1 | h1
          · exact Or.inr (Or.inl h1)
          · exact Or.inl h1
      · intro b hb h0
        have h1 := h.inn b hb h0
        by_cases hb1 : b.area = 1
        · rw [hb1] at h1; exact absurd hz h1.1
        · have : (({ m with a1 := s } : Spc).at b.area) = m.at b.area := by simp [Spc.at, hb1]
          rw [this]; exact h1
      · intro b hb h0
        refine ⟨?_, (h.out b hb h0).2⟩
        rcases hblk b hb with h1 | h1
        · exact Or.inl h1
        · exact Or.inr h1
    · have e : m.lay 2 s = { m with a2 := s } := rfl
      have hz1 : m.a2 = (0, 0) := hzz
      rw [e]
      refine ⟨h.w1, Or.inr ho, ?_, h.ok, ?_, ?_, h.srt⟩
      · rcases h.w1 with e2 | e2
        · exact Or.inr (Or.inr (Or.inl e2))
        · rcases hdis m.a1 (Or.inl rfl) e2 with h1 | h1
          · exact Or.inl h1
          · exact Or.inr (Or.inl h1)
      · intro b hb h0
        have h1 := h.inn b hb h0
        by_cases hb1 : b.area = 2
        · rw [hb1] at h1; exact absurd hz h1.1
        · have : (({ m with a2 := s } : Spc).at b.area) = m.at b.area := by simp [Spc.at, hb1]
          rw [this]; exact h1
      · intro b hb h0
        refine ⟨(h.out b hb h0).1, ?_⟩
        rcases hblk b hb with h1 | h1
        · exact Or.inl h1
        · exact Or.inr h1
  refine ⟨hwf, ?_, ?_, ?_⟩
  · symm
    refine left_is hwf (by omega) (by omega) (cut_nrm _ _) fun n => ?_
    rw [inB_cut, inB_one' hm, (left_ok h 0).2 (by omega) (by omega), hown]
    have : reg (m.lay k s) 0 n = (reg m 0 n && !(decide (s.1 ≤ n) && decide (n ≤ s.2))) := by
      rw [Bool.eq_iff_iff]
      simp only [Bool.and_eq_true, Bool.not_eq_true', ← Bool.not_eq_true, decide_eq_true_eq, reg_zero]
      rcases hk with rfl | rfl
      · have hz1 : m.a1 = (0, 0) := hzz
        simp only [Spc.lay, if_true, hz1]
        omega
      · have hz1 : m.a2 = (0, 0) := hzz
        simp only [Spc.lay, hz1]
        rw [if_neg (by decide)]
        simp only
        omega
    rw [this]
    cases reg m 0 n <;> cases ownB m n <;> simp
  · symm
    refine left_is hwf (by omega) (by omega) (add_nrm _ _) fun n => ?_
    rw [inB_add, inB_one' hm, (left_ok h k).2 (by omega) (by omega), hown]
    have h1 : reg m k n = false := by
      rw [← Bool.not_eq_true]
      intro hr
      unfold reg at hr
      rw [if_neg (by omega)] at hr
      simp only [decide_eq_true_eq] at hr
      exact hr.1 hz
    have h2 : reg (m.lay k s) k n = (decide (s.1 ≤ n) && decide (n ≤ s.2)) := by
      rw [Bool.eq_iff_iff]
      rcases hk with rfl | rfl
      · rw [reg_one]; simp [Spc.lay]; omega
      · rw [reg_two]; simp [Spc.lay]; omega
    rw [h1, h2]
    by_cases hn : s.1 ≤ n ∧ n ≤ s.2
    · rw [(hl n hn.1 hn.2).2]; simp
    · have : (decide (s.1 ≤ n) && decide (n ≤ s.2)) = false := by simp; omega
      rw [this]; simp
  · symm
    refine left_is hwf (by omega) (by omega) (left_ok h _).1 fun n => ?_
    rw [(left_ok h _).2 (by omega) (by omega), hown]
    congr 1
    rcases hk with rfl | rfl <;> simp [reg, Spc.at, Spc.lay]
/-- an area is given back -/
theorem close_ok {m : Spc} (h : WF m) {k : Int} (hk : k = 1 ∨ k = 2) (hz : (m.at k).1 ≠ 0) (hb : ∀ b ∈ m.L, b.area ≠ k) :
    WF (m.lay k (0, 0)) ∧ leftR (m.lay k (0, 0)) 0 = add (leftR m 0) (m.at k) ∧ leftR (m.lay k (0, 0)) k = cut (leftR m k) (m.at k) ∧ leftR (m.lay k (0, 0)) (3 - k) = leftR m (3 - k) := by
  have ho : owns (m.at k) = true := by
    rcases h.at_ k with e | e
    · rw [e] at hz; exact absurd rfl hz
    · exact e
  have ho' := owns_iff.1 ho
  have hm := owns_may ho
  have hown : ∀ n, ownB (m.lay k (0, 0)) n = ownB m n := by
    intro n; unfold Spc.lay; split <;> rfl
  have hno : ∀ n, (m.at k).1 ≤ n → n ≤ (m.at k).2 → ownB m n = false := by
    intro n h1 h2
    rw [← Bool.not_eq_true, own_iff]
    rintro ⟨b, hbm, h3, h4⟩
    have hbo := owns_iff.1 (h.ok b hbm).1
    have har := (h.ok b hbm).2.2
    by_cases h0 : b.area = 0
    · have h5 := h.out b hbm h0
      rcases hk with rfl | rfl
      · have e : m.at 1 = m.a1 := rfl
        rw [e] at h1 h2; omega
      · have e : m.at 2 = m.a2 := rfl
        rw [e] at h1 h2; omega
    · have h5 := h.inn b hbm (by omega)
      have h6 := hb b hbm
      rcases hk with rfl | rfl
      · have e : m.at 1 = m.a1 := rfl
        have e2 : b.area = 2 := by omega
        rw [e2] at h5
        have e3 : m.at 2 = m.a2 := rfl
        rw [e3] at h5
        rw [e] at h1 h2 hz
        rcases h.dis with d | d | d | d
        · omega
        · omega
        · rw [d] at hz; exact hz rfl
        · rw [d] at h5; exact h5.1 rfl
      · have e : m.at 2 = m.a2 := rfl
        have e2 : b.area = 1 := by omega
        rw [e2] at h5
        have e3 : m.at 1 = m.a1 := rfl
        rw [e3] at h5
        rw [e] at h1 h2 hz
        rcases h.dis with d | d | d | d
        · omega
        · omega
        · rw [d] at h5; exact h5.1 rfl
        · rw [d] at hz; exact hz rfl
  have hwf : WF (m.lay k (0, 0)) := by
    rcases hk with rfl | rfl
    · have e : m.lay 1 (0, 0) = { m with a1 := (0, 0) } := rfl
      rw [e]
      refine ⟨Or.inl rfl, h.w2, Or.inr (Or.inr (Or.inl rfl)), h.ok, ?_, ?_, h.srt⟩
      · intro b hbm h0
        have h1 := h.inn b hbm h0
        have : (({ m with a1 := (0, 0) } : Spc).at b.area) = m.at b.area := by simp [Spc.at, hb b hbm]
        rw [this]; exact h1
      · intro b hbm h0
        have hbo := owns_iff.1 (h.ok b hbm).1
        exact ⟨Or.inr (by show (0 : Int) < b.sp.1; omega), (h.out b hbm h0).2⟩
    · have e : m.lay 2 (0, 0) = { m with a2 := (0, 0) } := rfl
      rw [e]
      refine ⟨h.w1, Or.inl rfl, Or.inr (Or.inr (Or.inr rfl)), h.ok, ?_, ?_, h.srt⟩
      · intro b hbm h0
        have h1 := h.inn b hbm h0
        have : (({ m with a2 := (0, 0) } : Spc).at b.area) = m.at b.area := by simp [Spc.at, hb b hbm]
        rw [this]; exact h1
      · intro b hbm h0
        have hbo := owns_iff.1 (h.ok b hbm).1
        exact ⟨(h.out b hbm h0).1, Or.inr (by show (0 : Int) < b.sp.1; omega)⟩
  refine ⟨hwf, ?_, ?_, ?_⟩
  · symm
    refine left_is hwf (by omega) (by omega) (add_nrm _ _) fun n => ?_
    rw [inB_add, inB_one' hm, (left_ok h 0).2 (by omega) (by omega), hown]
    have h2 : reg (m.lay k (0, 0)) 0 n = (reg m 0 n || (decide ((m.at k).1 ≤ n) && decide (n ≤ (m.at k).2))) := by
      rw [Bool.eq_iff_iff]
      simp only [Bool.or_eq_true, Bool.and_eq_true, decide_eq_true_eq, reg_zero]
      rcases hk with rfl | rfl
      · have e : m.at 1 = m.a1 := rfl
        rw [e] at ho' hz ⊢
        simp only [Spc.lay, if_true]
        rcases h.dis with d | d | d | d
        · omega
        · omega
        · rw [d] at hz; exact absurd rfl hz
        · rw [d]; simp only; omega
      · have e : m.at 2 = m.a2 := rfl
        rw [e] at ho' hz ⊢
        simp only [Spc.lay]
        rw [if_neg (by decide)]
        simp only
        rcases h.dis with d | d | d | d
        · omega
        · omega
        · rw [d]; simp only; omega
        · rw [d] at hz; exact absurd rfl hz
    rw [h2]
    by_cases hn : (m.at k).1 ≤ n ∧ n ≤ (m.at k).2
    · rw [hno n hn.1 hn.2]; simp
    · have : (decide ((m.at k).1 ≤ n) && decide (n ≤ (m.at k).2)) = false := by simp; omega
      rw [this]; simp
  · symm
    refine left_is hwf (by omega) (by omega) (cut_nrm _ _) fun n => ?_
    rw [inB_cut, inB_one' hm, (left_ok h k).2 (by omega) (by omega), hown]
    have h1 : reg (m.lay k (0, 0)) k n = false := by
      rw [← Bool.not_eq_true]
      rcases hk with rfl | rfl
      · rw [reg_one]; simp [Spc.lay]
      · rw [reg_two]; simp [Spc.lay]
    have h2 : reg m k n = (decide ((m.at k).1 ≤ n) && decide (n ≤ (m.at k).2)) := by
      rw [Bool.eq_iff_iff]
      unfold reg
      rw [if_neg (by omega)]
      simp only [Bool.and_eq_true, decide_eq_true_eq]
      omega
    rw [h1, h2]
    cases (decide ((m.at k).1 ≤ n) && decide (n ≤ (m.at k).2)) <;> simp
  · symm
    refine left_is hwf (by omega) (by omega) (left_ok h _).1 fun n => ?_
    rw [(left_ok h _).2 (by omega) (by omega), hown]
    congr 1
    rcases hk with rfl | rfl <;> simp [reg, Spc.at, Spc.lay]

/-- a block is laid in -/
def insB (b : Bk) (L : List Bk) : List Bk := L.takeWhile (fun c => decide (c.sp.1 < b.sp.1)) ++ b :: L.dropWhile (fun c => decide (c.sp.1 < b.sp.1))
theorem mem_insB {b c : Bk} {L : List Bk} : c ∈ insB b L ↔ c = b ∨ c ∈ L := by
  unfold insB
  rw [List.mem_append, List.mem_cons]
  conv => rhs; rw [← List.takeWhile_append_dropWhile (p := fun c => decide (c.sp.1 < b.sp.1)) (l := L), List.mem_append]
  constructor
  · rintro (h | h | h)
    · exact Or.inr (Or.inl h)
    · exact Or.inl h
    · exact Or.inr (Or.inr h)
  · rintro (h | h | h)
    · exact Or.inr (Or.inl h)
    · exact Or.inl h
    · exact Or.inr (Or.inr h)
theorem insB_srt {b : Bk} : ∀ {L : List Bk}, L.Pairwise (fun a b => a.sp.2 < b.sp.1) → (∀ c ∈ L, c.sp.1 ≤ c.sp.2 ∧ (c.sp.2 < b.sp.1 ∨ b.sp.2 < c.sp.1)) → b.sp.1 ≤ b.sp.2 → (insB b L).Pairwise (fun a b => a.sp.2 < b.sp.1)
  | [], _, _, _ => by simp [insB]
  | c :: r, hp, hd, hb => by
    rw [List.pairwise_cons] at hp
    by_cases h : c.sp.1 < b.sp.1
    · have e : insB b (c :: r) = c :: insB b r := by simp [insB, h]
      rw [e, List.pairwise_cons]
      refine ⟨?_, insB_srt hp.2 (fun x hx => hd x (by simp [hx])) hb⟩
      intro x hx
      rcases mem_insB.1 hx with rfl | hx
      · have := hd c (by simp); omega
      · exact hp.1 x hx
    · have e : insB b (c :: r) = b :: c :: r := by simp [insB, h]
      rw [e, List.pairwise_cons]
      have hc := hd c (by simp)
      refine ⟨?_, by rw [List.pairwise_cons]; exact hp⟩
      intro x hx
      rcases List.mem_cons.1 hx with rfl | hx
      · omega
      · have := hp.1 x hx; omega
theorem put_ok {m : Spc} (h : WF m) {k : Int} (h0 : 0 ≤ k) (h2 : k ≤ 2) {s : S} {o : Int} (ho : 1 ≤ o) (hs : has (leftR m k) s = true) :
    WF { m with L := insB ⟨s, o, k⟩ m.L } ∧ leftR { m with L := insB ⟨s, o, k⟩ m.L } k = cut (leftR m k) s ∧ ∀ j, 0 ≤ j → j ≤ 2 → j ≠ k → leftR { m with L := insB ⟨s, o, k⟩ m.L } j = leftR m j := by
  obtain ⟨hm, hl⟩ := has_left h h0 h2 hs
  have hos := has_owns h h0 h2 hs
  have hos' := owns_iff.1 hos
  have hblk : ∀ b ∈ m.L, b.sp.1 ≤ b.sp.2 ∧ (b.sp.2 < s.1 ∨ s.2 < b.sp.1) := by
    intro b hb
    have hbo := owns_iff.1 (h.ok b hb).1
    refine ⟨hbo.2.1, ?_⟩
    by_cases h1 : b.sp.2 < s.1
    · exact Or.inl h1
    · by_cases h2 : s.2 < b.sp.1
      · exact Or.inr h2
      · have h3 := (hl (max s.1 b.sp.1) (by omega) (by omega)).2
        rw [block_own hb (by omega) (by omega)] at h3
        cases h3
  have e1 := (hl s.1 (Int.le_refl _) hos'.2.1).1
  have e2 := (hl s.2 hos'.2.1 (Int.le_refl _)).1
  have hown : ∀ n, ownB { m with L := insB ⟨s, o, k⟩ m.L } n = (ownB m n || (decide (s.1 ≤ n) && decide (n ≤ s.2))) := by
    intro n
    rw [Bool.eq_iff_iff, Bool.or_eq_true, own_iff, own_iff]
    simp only [Bool.and_eq_true, decide_eq_true_eq]
    constructor
    · rintro ⟨b, hb, h3⟩
      rcases mem_insB.1 hb with rfl | hb
      · exact Or.inr h3
      · exact Or.inl ⟨b, hb, h3⟩
    · rintro (⟨b, hb, h3⟩ | h3)
      · exact ⟨b, mem_insB.2 (Or.inr hb), h3⟩
      · exact ⟨_, mem_insB.2 (Or.inl rfl), h3⟩
  have hwf : WF { m with L := insB ⟨s, o, k⟩ m.L } := by
    refine ⟨h.w1, h.w2, h.dis, ?_, ?_, ?_, insB_srt h.srt hblk hos'.2.1⟩
    · intro b hb
      rcases mem_insB.1 hb with rfl | hb
      · exact ⟨hos, ho, h0, h2⟩
      · exact h.ok b hb
    · intro b hb hp
      rcases mem_insB.1 hb with rfl | hb
      · have hk : k ≠ 0 := by simp only at hp; omega
        unfold reg at e1 e2
        rw [if_neg hk] at e1 e2
        simp only [decide_eq_true_eq] at e1 e2
        exact ⟨e1.1, e1.2.1, e2.2.2⟩
      · exact h.inn b hb hp
    · intro b hb hp
      rcases mem_insB.1 hb with rfl | hb
      · have hk : k = 0 := hp
        subst hk
        have key : ∀ t : S, (t = m.a1 ∨ t = m.a2) → (t = (0, 0) ∨ owns t = true) → s.2 < t.1 ∨ t.2 < s.1 := by
          intro t ht hto
          rcases hto with e | e
          · rw [e]; exact Or.inr (by show (0 : Int) < s.1; omega)
          · have hto' := owns_iff.1 e
            by_cases h1 : t.2 < s.1
            · exact Or.inr h1
            · by_cases h2 : s.2 < t.1
              · exact Or.inl h2
              · have h3 := reg_zero.1 (hl (max s.1 t.1) (by omega) (by omega)).1
                rcases ht with rfl | rfl <;> omega
        exact ⟨key _ (Or.inl rfl) h.w1, key _ (Or.inr rfl) h.w2⟩
      · exact h.out b hb hp
  have hreg : ∀ j n, reg { m with L := insB ⟨s, o, k⟩ m.L } j n = reg m j n := fun j n => rfl
  refine ⟨hwf, ?_, fun j hj0 hj2 hjk => ?_⟩
  · symm
    refine left_is hwf h0 h2 (cut_nrm _ _) fun n => ?_
    rw [inB_cut, inB_one' hm, (left_ok h k).2 h0 h2, hown, hreg]
    cases reg m k n <;> cases ownB m n <;> simp
  · symm
    refine left_is hwf hj0 hj2 (left_ok h _).1 fun n => ?_
    rw [(left_ok h _).2 hj0 hj2, hown, hreg]
    by_cases hn : s.1 ≤ n ∧ n ≤ s.2
    · obtain ⟨r1, r2⟩ := hl n hn.1 hn.2
      have : reg m j n = false := by
        rw [← Bool.not_eq_true]
        intro hr
        have hj : j = 0 ∨ j = 1 ∨ j = 2 := by omega
        have hk : k = 0 ∨ k = 1 ∨ k = 2 := by omega
        rcases h.dis with d | d | d | d <;>
        rcases hj with rfl | rfl | rfl <;> rcases hk with rfl | rfl | rfl <;> simp only [reg_zero, reg_one, reg_two] at hr r1 <;> first | omega | (rw [d] at hr; exact absurd rfl hr.1) | (rw [d] at r1; exact absurd rfl r1.1)
      rw [this]; simp
    · have : (decide (s.1 ≤ n) && decide (n ≤ s.2)) = false := by simp; omega
      rw [this]; simp
/-- a block is taken out -/
theorem free_ok {m : Spc} (h : WF m) {i : Nat} {b : Bk} (hb : m.L[i]? = some b) :
    WF { m with L := m.L.eraseIdx i } ∧ leftR { m with L := m.L.eraseIdx i } b.area = add (leftR m b.area) b.sp ∧ ∀ j, 0 ≤ j → j ≤ 2 → j ≠ b.area → leftR { m with L := m.L.eraseIdx i } j = leftR m j := by
  have hbm := List.mem_of_getElem? hb
  obtain ⟨hos, ho1, ha0, ha2⟩ := h.ok b hbm
  have hos' := owns_iff.1 hos
  have hm := owns_may hos
  have hsub : ∀ c, c ∈ m.L.eraseIdx i → c ∈ m.L := fun c hc => List.mem_of_mem_eraseIdx hc
  obtain ⟨hi, hbe⟩ := List.getElem?_eq_some_iff.1 hb
  have hsplit : m.L = m.L.take i ++ b :: m.L.drop (i + 1) := by
    rw [← hbe, ← List.drop_eq_getElem_cons hi, List.take_append_drop]
  have her : m.L.eraseIdx i = m.L.take i ++ m.L.drop (i + 1) := List.eraseIdx_eq_take_drop_succ m.L i
  have hsrt := h.srt
  rw [hsplit, List.pairwise_append] at hsrt
  obtain ⟨s1, s2, s3⟩ := hsrt
  rw [List.pairwise_cons] at s2
  have hapart : ∀ c ∈ m.L.eraseIdx i, c.sp.2 < b.sp.1 ∨ b.sp.2 < c.sp.1 := by
    intro c hc
    rw [her] at hc
    rcases List.mem_append.1 hc with hc | hc
    · exact Or.inl (s3 c hc b (by simp))
    · exact Or.inr (s2.1 c hc)
  have hown : ∀ n, ownB m n = (ownB { m with L := m.L.eraseIdx i } n || (decide (b.sp.1 ≤ n) && decide (n ≤ b.sp.2))) := by
    intro n
    rw [Bool.eq_iff_iff, Bool.or_eq_true, own_iff, own_iff]
    simp only [Bool.and_eq_true, decide_eq_true_eq]
    constructor
    · rintro ⟨c, hc, h3⟩
      rw [hsplit] at hc
      rcases List.mem_append.1 hc with hc | hc
      · exact Or.inl ⟨c, by rw [her]; exact List.mem_append_left _ hc, h3⟩
      · rcases List.mem_cons.1 hc with rfl | hc
        · exact Or.inr h3
        · exact Or.inl ⟨c, by rw [her]; exact List.mem_append_right _ hc, h3⟩
    · rintro (⟨c, hc, h3⟩ | h3)
      · exact ⟨c, hsub c hc, h3⟩
      · exact ⟨b, hbm, h3⟩
  have hfree : ∀ n, b.sp.1 ≤ n → n ≤ b.sp.2 → ownB { m with L := m.L.eraseIdx i } n = false := by
    intro n h1 h2
    rw [← Bool.not_eq_true, own_iff]
    rintro ⟨c, hc, h3, h4⟩
    have := hapart c hc
    omega
  have hwf : WF { m with L := m.L.eraseIdx i } := by
    refine ⟨h.w1, h.w2, h.dis, fun c hc => h.ok c (hsub c hc), fun c hc => h.inn c (hsub c hc), fun c hc => h.out c (hsub c hc), ?_⟩
    exact h.srt.sublist (List.eraseIdx_sublist m.L i)
  have hreg : ∀ j n, reg { m with L := m.L.eraseIdx i } j n = reg m j n := fun j n => rfl
  have hin : ∀ n, b.sp.1 ≤ n → n ≤ b.sp.2 → reg m b.area n = true := by
    intro n h1 h2
    by_cases h0 : b.area = 0
    · rw [h0, reg_zero]
      have := h.out b hbm h0
      omega
    · have := h.inn b hbm (by omega)
      unfold reg
      rw [if_neg h0]
      simp only [decide_eq_true_eq]
      omega
  refine ⟨hwf, ?_, fun j hj0 hj2 hjk => ?_⟩
  · symm
    refine left_is hwf ha0 ha2 (add_nrm _ _) fun n => ?_
    rw [inB_add, inB_one' hm, (left_ok h _).2 ha0 ha2, hown, hreg]
    by_cases hn : b.sp.1 ≤ n ∧ n ≤ b.sp.2
    · rw [hfree n hn.1 hn.2, hin n hn.1 hn.2]; simp [hn.1, hn.2]
    · have : (decide (b.sp.1 ≤ n) && decide (n ≤ b.sp.2)) = false := by simp; omega
      rw [this]; simp
  · symm
    refine left_is hwf hj0 hj2 (left_ok h _).1 fun n => ?_
    rw [(left_ok h _).2 hj0 hj2, hown, hreg]
    by_cases hn : b.sp.1 ≤ n ∧ n ≤ b.sp.2
    · have r1 := hin n hn.1 hn.2
      have : reg m j n = false := by
        rw [← Bool.not_eq_true]
        intro hr
        have hj : j = 0 ∨ j = 1 ∨ j = 2 := by omega
        have hk : b.area = 0 ∨ b.area = 1 ∨ b.area = 2 := by omega
        rcases h.dis with d | d | d | d <;>
        rcases hj with rfl | rfl | rfl <;> rcases hk with e | e | e <;> rw [e] at r1 hjk <;> simp only [reg_zero, reg_one, reg_two] at hr r1 <;> first | omega | (rw [d] at hr; exact absurd rfl hr.1) | (rw [d] at r1; exact absurd rfl r1.1)
      rw [this]; simp
    · have : (decide (b.sp.1 ≤ n) && decide (n ≤ b.sp.2)) = false := by simp; omega
      rw [this]; simp
end Go.Proofs.YtilahcnpjbnjiaaGreatDoor.Sp

/- Plain law of layer 12: the steps, and what the statements say of them. -/
namespace Go.Proofs.YtilahcnpjbnjiaaGreatDoor.Sp
set_option linter.unusedVariables false
set_option linter.unusedSimpArgs false

def putR (m : Spc) (b : Bk) : Spc := { m with L := insB b m.L }
def carveR (m : Spc) (k : Int) (s : S) : Spc × Int :=
  if k < 1 ∨ 2 < k then (m, 1) else if owns s = false then (m, 40) else if (m.at k).1 ≠ 0 then (m, 32) else if has (leftR m 0) s = false then (m, 42) else (m.lay k s, 0)
def busyB (m : Spc) (k : Int) : Bool := m.L.any fun b => decide (b.area = k)
def closeR (m : Spc) (k : Int) : Spc × Int :=
  if k < 1 ∨ 2 < k then (m, 1) else if (m.at k).1 = 0 then (m, 31) else if busyB m k = true then (m, 33) else (m.lay k (0, 0), 0)
def drawR (m : Spc) (o k z : Int) : Spc × S × Int :=
  if o < 1 ∨ k < 0 ∨ 2 < k ∨ z < 1 then (m, (0, 0), 1) else if 0 < k ∧ (m.at k).1 = 0 then (m, (0, 0), 31) else
    if (first (leftR m k) z).2 = true then (putR m ⟨(first (leftR m k) z).1, o, k⟩, (first (leftR m k) z).1, 0) else (m, (0, 0), 43)
/-- the area of which all labels of a span are left; -1: none -/
def inR (m : Spc) (s : S) : Int := if has (leftR m 0) s = true then 0 else if has (leftR m 1) s = true then 1 else if has (leftR m 2) s = true then 2 else -1
def takeR (m : Spc) (o : Int) (s : S) : Spc × Int :=
  if o < 1 then (m, 1) else if owns s = false then (m, 40) else if inR m s < 0 then (m, 42) else (putR m ⟨s, o, inR m s⟩, 0)
def isB (s : S) (o : Int) (b : Bk) : Bool := decide (b.sp = s) && decide (b.owner = o)
def freeR (m : Spc) (o : Int) (s : S) : Spc × Int := match m.L.findIdx? (isB s o) with
  | some i => ({ m with L := m.L.eraseIdx i }, 0)
  | none => (m, 31)
def hasL (n : Int) (b : Bk) : Bool := decide (b.sp.1 ≤ n) && decide (n ≤ b.sp.2)
def ownerR (m : Spc) (n : Int) : Int × Int := match m.L.find? (hasL n) with
  | some b => (b.owner, b.area)
  | none => (0, 0)
def areaR (m : Spc) (k : Int) : S × Bool := if k < 1 ∨ 2 < k ∨ (m.at k).1 = 0 then ((0, 0), false) else (m.at k, true)
def indexR (m : Spc) (n : Int) : Int × Bool := if m.a1.1 = 0 ∨ n < 0 ∨ m.a1.2 - m.a1.1 < n then (0, false) else (m.a1.1 + n, true)
def spc0 : Spc := ⟨(0, 0), (0, 0), []⟩
structure Stp where
  kind : Int
  owner : Int
  area : Int
  size : Int
  sp : S
def stepR (m : Spc) (x : Stp) : Spc :=
  if x.kind = 0 then (carveR m x.area x.sp).1 else if x.kind = 1 then (closeR m x.area).1 else if x.kind = 2 then (drawR m x.owner x.area x.size).1 else if x.kind = 3 then (takeR m x.owner x.sp).1 else if x.kind = 4 then (freeR m x.owner x.sp).1 else m
def runR (m : Spc) (l : List Stp) : Spc := l.foldl stepR m

theorem wf0 : WF spc0 := ⟨Or.inl rfl, Or.inl rfl, Or.inr (Or.inr (Or.inl rfl)), by simp [spc0], by simp [spc0], by simp [spc0], by simp [spc0]⟩
theorem insB_len (b : Bk) (L : List Bk) : (insB b L).length = L.length + 1 := by
  unfold insB
  rw [List.length_append, List.length_cons]
  have := congrArg List.length (List.takeWhile_append_dropWhile (p := fun c : Bk => decide (c.sp.1 < b.sp.1)) (l := L))
  rw [List.length_append] at this
  omega
theorem first_ok {l : List S} {z : Int} (h : (first l z).2 = true) : has l (first l z).1 = true ∧ size (first l z).1 = z := by
  obtain ⟨h1, h2, h3⟩ := first_yes (l := l) (many := z) (f := (first l z).1) (by rw [← h])
  exact ⟨h1, h2⟩
theorem inR_ok {m : Spc} {s : S} (h : ¬ inR m s < 0) : 0 ≤ inR m s ∧ inR m s ≤ 2 ∧ has (leftR m (inR m s)) s = true := by
  unfold inR at h ⊢
  split
  · exact ⟨by omega, by omega, by assumption⟩
  · split
    · exact ⟨by omega, by omega, by assumption⟩
    · split
      · exact ⟨by omega, by omega, by assumption⟩
      · rename_i h1 h2 h3; rw [if_neg h1, if_neg h2, if_neg h3] at h; omega
theorem carve_wf {m : Spc} (h : WF m) (k : Int) (s : S) : WF (carveR m k s).1 ∧ (carveR m k s).1.L.length ≤ m.L.length := by
  unfold carveR
  split
  · exact ⟨h, Nat.le_refl _⟩
  · split
    · exact ⟨h, Nat.le_refl _⟩
    · split
      · exact ⟨h, Nat.le_refl _⟩
      · split
        · exact ⟨h, Nat.le_refl _⟩
        · refine ⟨(carve_ok h (k := k) (by omega) (by simpa using (by assumption : ¬ (m.at k).1 ≠ 0)) (by simpa using (by assumption : ¬ has (leftR m 0) s = false))).1, ?_⟩
          unfold Spc.lay; split <;> exact Nat.le_refl _
theorem close_wf {m : Spc} (h : WF m) (k : Int) : WF (closeR m k).1 ∧ (closeR m k).1.L.length ≤ m.L.length := by
  unfold closeR
  split
  · exact ⟨h, Nat.le_refl _⟩
  · split
    · exact ⟨h, Nat.le_refl _⟩
    · split
      · exact ⟨h, Nat.le_refl _⟩
      · rename_i h1 h2 h3
        refine ⟨(close_ok h (k := k) (by omega) h2 ?_).1, ?_⟩
        · intro b hb he
          exact h3 (by unfold busyB; rw [List.any_eq_true]; exact ⟨b, hb, by simp [he]⟩)
        · unfold Spc.lay; split <;> exact Nat.le_refl _
theorem draw_wf {m : Spc} (h : WF m) (o k z : Int) : WF (drawR m o k z).1 ∧ (drawR m o k z).1.L.length ≤ m.L.length + 1 := by
  unfold drawR
  split
  · exact ⟨h, Nat.le_succ _⟩
  · split
    · exact ⟨h, Nat.le_succ _⟩
    · split
      · rename_i h1 h2 h3
        exact ⟨(put_ok h (k := k) (by omega) (by omega) (by omega) (first_ok h3).1).1, by show (insB _ _).length ≤ _; rw [insB_len]; exact Nat.le_refl _⟩
      · exact ⟨h, Nat.le_succ _⟩
theorem take_wf {m : Spc} (h : WF m) (o : Int) (s : S) : WF (takeR m o s).1 ∧ (takeR m o s).1.L.length ≤ m.L.length + 1 := by
  unfold takeR
  split
  · exact ⟨h, Nat.le_succ _⟩
  · split
    · exact ⟨h, Nat.le_succ _⟩
    · split
      · exact ⟨h, Nat.le_succ _⟩
      · rename_i h1 h2 h3
        obtain ⟨i0, i2, hh⟩ := inR_ok h3
        exact ⟨(put_ok h i0 i2 (by omega) hh).1, by show (insB _ _).length ≤ _; rw [insB_len]; exact Nat.le_refl _⟩
theorem free_wf {m : Spc} (h : WF m) (o : Int) (s : S) : WF (freeR m o s).1 ∧ (freeR m o s).1.L.length ≤ m.L.length := by
  unfold freeR
  split
  · rename_i i hi
    obtain ⟨h1, -, -⟩ := List.findIdx?_eq_some_iff_getElem.1 hi
    exact ⟨(free_ok h (List.getElem?_eq_getElem h1)).1, by show (m.L.eraseIdx i).length ≤ _; rw [List.length_eraseIdx]; split <;> omega⟩
  · exact ⟨h, Nat.le_refl _⟩
theorem step_wf {m : Spc} (h : WF m) (x : Stp) : WF (stepR m x) ∧ (stepR m x).L.length ≤ m.L.length + 1 := by
  unfold stepR
  split
  · exact ⟨(carve_wf h _ _).1, Nat.le_succ_of_le (carve_wf h _ _).2⟩
  · split
    · exact ⟨(close_wf h _).1, Nat.le_succ_of_le (close_wf h _).2⟩
    · split
      · exact draw_wf h _ _ _
      · split
        · exact take_wf h _ _
        · split
          · exact ⟨(free_wf h _ _).1, Nat.le_succ_of_le (free_wf h _ _).2⟩
          · exact ⟨h, Nat.le_succ _⟩
theorem run_wf : ∀ (l : List Stp) {m : Spc}, WF m → WF (runR m l) ∧ (runR m l).L.length ≤ m.L.length + l.length
  | [], m, h => ⟨h, Nat.le_refl _⟩
  | x :: l, m, h => by
    have h1 := step_wf h x
    have h2 := run_wf l h1.1
    exact ⟨h2.1, by have := h2.2; have := h1.2; show (runR (stepR m x) l).L.length ≤ _; rw [List.length_cons]; omega⟩
theorem run_snoc (m : Spc) (l : List Stp) (x : Stp) : runR m (l ++ [x]) = stepR (runR m l) x := by simp [runR]

/-- Apart -/
theorem reg_dis {m : Spc} (h : WF m) {j k n : Int} (hj0 : 0 ≤ j) (hj2 : j ≤ 2) (hk0 : 0 ≤ k) (hk2 : k ≤ 2) (h1 : reg m j n = true) (h2 : reg m k n = true) : j = k := by
  have hj : j = 0 ∨ j = 1 ∨ j = 2 := by omega
  have hk : k = 0 ∨ k = 1 ∨ k = 2 := by omega
  rcases h.dis with d | d | d | d <;>
  rcases hj with rfl | rfl | rfl <;> rcases hk with rfl | rfl | rfl <;> simp only [reg_zero, reg_one, reg_two] at h1 h2 <;> first | omega | (rw [d] at h1; exact absurd rfl h1.1) | (rw [d] at h2; exact absurd rfl h2.1)
theorem block_reg {m : Spc} (h : WF m) {b : Bk} (hb : b ∈ m.L) {n : Int} (h1 : b.sp.1 ≤ n) (h2 : n ≤ b.sp.2) : reg m b.area n = true := by
  obtain ⟨hos, ho1, ha0, ha2⟩ := h.ok b hb
  have hos' := owns_iff.1 hos
  by_cases h0 : b.area = 0
  · rw [h0, reg_zero]
    have := h.out b hb h0
    omega
  · have := h.inn b hb (by omega)
    unfold reg
    rw [if_neg h0]
    simp only [decide_eq_true_eq]
    omega
theorem apart_area {m : Spc} (h : WF m) {b : Bk} (hb : b ∈ m.L) {k : Int} (h0 : 0 < k) (h2 : k ≤ 2) : ((areaR m k).2 && (decide ((areaR m k).1.1 ≤ b.sp.1) && decide (b.sp.2 ≤ (areaR m k).1.2))) = decide (b.area = k) := by
  obtain ⟨hos, ho1, ha0, ha2⟩ := h.ok b hb
  have hos' := owns_iff.1 hos
  rw [Bool.eq_iff_iff]
  simp only [Bool.and_eq_true, decide_eq_true_eq]
  constructor
  · rintro ⟨e, e1, e2⟩
    unfold areaR at e e1 e2
    split at e
    · cases e
    · rename_i hz
      rw [if_neg hz] at e1 e2
      simp only at e1 e2
      refine reg_dis h ha0 ha2 (by omega) h2 (block_reg h hb (Int.le_refl _) hos'.2.1) (n := b.sp.1) ?_
      unfold reg
      rw [if_neg (by omega)]
      simp only [decide_eq_true_eq]
      omega
  · intro e
    have hi := h.inn b hb (by omega)
    rw [e] at hi
    unfold areaR
    rw [if_neg (by omega)]
    exact ⟨rfl, hi.2⟩
theorem apart_meets {m : Spc} (h : WF m) {b : Bk} (hb : b ∈ m.L) {k : Int} (h0 : 0 ≤ k) (h2 : k ≤ 2) : meets (leftR m k) b.sp = false := by
  refine no_meets fun n ⟨h1, h3, h4, h5⟩ => ?_
  have := (left_ok h k).2 h0 h2 n
  rw [inB_iff.2 h1, block_own hb h4 h5] at this
  simp at this
def sumB : List Bk → Int
  | [] => 0
  | b :: r => size b.sp + sumB r
theorem sumB_take {L : List Bk} {k : Nat} {b : Bk} (h : L[k]? = some b) : sumB (L.take (k + 1)) = sumB (L.take k) + size b.sp := by
  have key : ∀ (a : List Bk) (c : Bk), sumB (a ++ [c]) = sumB a + size c.sp := by
    intro a c
    induction a with
    | nil => simp [sumB]
    | cons x r ih => simp only [List.cons_append, sumB, ih]; omega
  obtain ⟨h1, h2⟩ := List.getElem?_eq_some_iff.1 h
  rw [List.take_succ_eq_append_getElem h1, h2, key]
theorem own_cnt : ∀ (L : List Bk), (∀ b ∈ L, mayB b.sp = true) → L.Pairwise (fun a b => a.sp.2 < b.sp.1) → sumB L = cnt (fun n => L.any (hasL n)) 1048576
  | [], _, _ => (cnt_none (p := fun n => ([] : List Bk).any (hasL n)) (N := 1048576) (fun n => rfl)).symm
  | b :: r, hm, hp => by
    rw [List.pairwise_cons] at hp
    have ih := own_cnt r (fun c hc => hm c (by simp [hc])) hp.2
    have hb := hm b (by simp)
    rw [sumB, ih, ← cnt_size hb (N := 1048576) (by decide)]
    symm
    refine cnt_or (fun n => by simp [List.any_cons, hasL]) (fun n => ?_)
    rintro ⟨h1, h2⟩
    rw [List.any_eq_true] at h2
    obtain ⟨c, hc, hcn⟩ := h2
    have := hp.1 c hc
    simp [hasL] at h1 hcn
    omega
theorem apart_sum {m : Spc} (h : WF m) : sumB m.L + count (leftR m 0) + count (leftR m 1) + count (leftR m 2) = 1048560 := by
  have hN : (1048576 : Int) ≤ ((1048576 : Nat) : Int) := by decide
  have ho : sumB m.L = cnt (ownB m) 1048576 := own_cnt m.L (fun b hb => owns_may (h.ok b hb).1) h.srt
  have hk : ∀ k, 0 ≤ k → k ≤ 2 → count (leftR m k) = cnt (fun n => reg m k n && !ownB m n) 1048576 := fun k h0 h2 => by
    rw [count_cnt hN]
    exact cnt_congr fun n _ _ => (left_ok h k).2 h0 h2 n
  rw [ho, hk 0 (by omega) (by omega), hk 1 (by omega) (by omega), hk 2 (by omega) (by omega)]
  have e1 : cnt (fun n => ownB m n || (reg m 0 n && !ownB m n)) 1048576 = cnt (ownB m) 1048576 + cnt (fun n => reg m 0 n && !ownB m n) 1048576 :=
    cnt_or (fun n => rfl) (fun n hh => by cases hO : ownB m n <;> simp [hO] at hh)
  have e2 : cnt (fun n => (ownB m n || (reg m 0 n && !ownB m n)) || (reg m 1 n && !ownB m n)) 1048576 = cnt (fun n => ownB m n || (reg m 0 n && !ownB m n)) 1048576 + cnt (fun n => reg m 1 n && !ownB m n) 1048576 :=
    cnt_or (fun n => rfl) (fun n hh => by
      cases hO : ownB m n
      · simp [hO] at hh
        have := reg_dis h (by omega) (by omega) (by omega) (by omega) hh.1 hh.2
        omega
      · simp [hO] at hh)
  have e3 : cnt (fun n => ((ownB m n || (reg m 0 n && !ownB m n)) || (reg m 1 n && !ownB m n)) || (reg m 2 n && !ownB m n)) 1048576 = cnt (fun n => (ownB m n || (reg m 0 n && !ownB m n)) || (reg m 1 n && !ownB m n)) 1048576 + cnt (fun n => reg m 2 n && !ownB m n) 1048576 :=
    cnt_or (fun n => rfl) (fun n hh => by
      cases hO : ownB m n
      · simp [hO] at hh
        rcases hh.1 with h1 | h1
        · have := reg_dis h (by omega) (by omega) (by omega) (by omega) h1 hh.2
          omega
        · have := reg_dis h (by omega) (by omega) (by omega) (by omega) h1 hh.2
          omega
      · simp [hO] at hh)
  have e4 : cnt (fun n => ((ownB m n || (reg m 0 n && !ownB m n)) || (reg m 1 n && !ownB m n)) || (reg m 2 n && !ownB m n)) 1048576 = cnt (fun n => decide (16 ≤ n) && decide (n ≤ 1048575)) 1048576 :=
    cnt_congr fun n _ _ => by
      rw [Bool.eq_iff_iff]
      constructor
      · intro hh
        have hb : 16 ≤ n ∧ n ≤ 1048575 := by
          cases hO : ownB m n
          · simp [hO] at hh
            rcases hh with (h1 | h1) | h1
            · exact reg_bd h h1
            · exact reg_bd h h1
            · exact reg_bd h h1
          · obtain ⟨b, hb, h1, h2⟩ := own_iff.1 hO
            exact reg_bd h (block_reg h hb h1 h2)
        simp; omega
      · intro hh
        simp at hh
        cases hO : ownB m n
        · by_cases r1 : reg m 1 n = true
          · simp [r1]
          · by_cases r2 : reg m 2 n = true
            · simp [r2]
            · have r0 : reg m 0 n = true := by
                rw [reg_zero]
                rw [reg_one] at r1
                rw [reg_two] at r2
                omega
              simp [r0]
        · simp
  rw [cnt_span 16 1048575 (by omega) (by omega), if_neg (by decide), if_neg (by decide)] at e4
  omega

/-- Back -/
theorem not_in {m : Spc} (h : WF m) {k : Int} (h0 : 0 ≤ k) (h2 : k ≤ 2) {s : S} (hs : has (leftR m k) s = true) : ∀ b ∈ m.L, b.sp.2 < s.1 ∨ s.2 < b.sp.1 := by
  intro b hb
  obtain ⟨hm, hl⟩ := has_left h h0 h2 hs
  have hos' := owns_iff.1 (has_owns h h0 h2 hs)
  have hbo := owns_iff.1 (h.ok b hb).1
  by_cases h1 : b.sp.2 < s.1
  · exact Or.inl h1
  · by_cases h2 : s.2 < b.sp.1
    · exact Or.inr h2
    · have h3 := (hl (max s.1 b.sp.1) (by omega) (by omega)).2
      rw [block_own hb (by omega) (by omega)] at h3
      cases h3
theorem free_none {m : Spc} (h : WF m) {k : Int} (h0 : 0 ≤ k) (h2 : k ≤ 2) {s : S} (hs : has (leftR m k) s = true) (o : Int) : freeR m o s = (m, 31) := by
  have hos' := owns_iff.1 (has_owns h h0 h2 hs)
  have : m.L.findIdx? (isB s o) = none := by
    rw [List.findIdx?_eq_none_iff]
    intro b hb
    have := not_in h h0 h2 hs b hb
    simp only [isB, Bool.and_eq_false_iff, decide_eq_false_iff_not]
    left
    intro e
    rw [e] at this
    omega
  unfold freeR
  rw [this]
theorem find_put {m : Spc} (h : WF m) {k : Int} (h0 : 0 ≤ k) (h2 : k ≤ 2) {s : S} (hs : has (leftR m k) s = true) (o : Int) (p : Bk → Bool) (hp : ∀ b ∈ m.L, p b = false) :
    (p ⟨s, o, k⟩ = true → (insB ⟨s, o, k⟩ m.L).find? p = some ⟨s, o, k⟩ ∧ ∃ i, (insB ⟨s, o, k⟩ m.L).findIdx? p = some i ∧ (insB ⟨s, o, k⟩ m.L).eraseIdx i = m.L) ∧ (p ⟨s, o, k⟩ = false → (insB ⟨s, o, k⟩ m.L).findIdx? p = none) := by
  have hsub : ∀ c ∈ m.L.takeWhile (fun c => decide (c.sp.1 < s.1)), p c = false := fun c hc => hp c ((List.takeWhile_sublist _).subset hc)
  constructor
  · intro hb
    have hn : (m.L.takeWhile (fun c => decide (c.sp.1 < s.1))).findIdx? p = none := by rw [List.findIdx?_eq_none_iff]; exact hsub
    refine ⟨?_, ?_⟩
    · unfold insB
      rw [List.find?_append, List.find?_eq_none.2 (fun c hc => by simp [hsub c hc])]
      simp [hb]
    · refine ⟨(m.L.takeWhile (fun c => decide (c.sp.1 < s.1))).length, ?_, ?_⟩
      · unfold insB
        rw [List.findIdx?_append, hn, List.findIdx?_cons, hb]
        simp
      · unfold insB
        rw [List.eraseIdx_append_of_length_le (Nat.le_refl _)]
        simp
  · intro hb
    rw [List.findIdx?_eq_none_iff]
    intro c hc
    rcases mem_insB.1 hc with rfl | hc
    · exact hb
    · exact hp c hc
theorem put_back {m : Spc} (h : WF m) {k : Int} (h0 : 0 ≤ k) (h2 : k ≤ 2) {s : S} (hs : has (leftR m k) s = true) (o : Int) :
    ownerR (putR m ⟨s, o, k⟩) s.2 = (o, k) ∧ (∀ o', o' ≠ o → freeR (putR m ⟨s, o, k⟩) o' s = (putR m ⟨s, o, k⟩, 31)) ∧ freeR (putR m ⟨s, o, k⟩) o s = (m, 0) := by
  have hos' := owns_iff.1 (has_owns h h0 h2 hs)
  have hd := not_in h h0 h2 hs
  have hno : ∀ o', ∀ b ∈ m.L, isB s o' b = false := by
    intro o' b hb
    have := hd b hb
    simp only [isB, Bool.and_eq_false_iff, decide_eq_false_iff_not]
    left
    intro e
    rw [e] at this
    omega
  refine ⟨?_, ?_, ?_⟩
  · have h1 := (find_put h h0 h2 hs o (hasL s.2) (fun b hb => by
      have := hd b hb
      have hbo := owns_iff.1 (h.ok b hb).1
      simp only [hasL, Bool.and_eq_false_iff, decide_eq_false_iff_not]
      omega)).1 (by simp [hasL]; omega)
    unfold ownerR putR
    simp only [h1.1]
  · intro o' ho
    have h1 := (find_put h h0 h2 hs o (isB s o') (hno o')).2 (by simp [isB]; exact fun e => ho e.symm)
    unfold freeR putR
    simp only [h1]
  · obtain ⟨-, i, h1, h2'⟩ := (find_put h h0 h2 hs o (isB s o) (hno o)).1 (by simp [isB])
    unfold freeR putR
    simp only [h1, h2']
theorem longest_has {l : List S} {s : S} (h : has l s = true) : size s ≤ longest l := by
  unfold has at h
  simp only [Bool.and_eq_true, List.any_eq_true, decide_eq_true_eq] at h
  obtain ⟨hm, x, hx, h1, h2⟩ := h
  have := le_most hx
  unfold longest
  unfold size at this ⊢
  omega
theorem draw_some {m : Spc} (h : WF m) {o k z : Int} (ho : 1 ≤ o) (h0 : 0 ≤ k) (h2 : k ≤ 2) (hz : 1 ≤ z) :
    (∃ s, drawR m o k z = (putR m ⟨s, o, k⟩, s, 0) ∧ has (leftR m k) s = true ∧ size s = z ∧ first (leftR m k) z = (s, true)) ∨
    (drawR m o k z = (m, (0, 0), 31) ∧ 0 < k ∧ (m.at k).1 = 0 ∧ (first (leftR m k) z).2 = false) ∨
    (drawR m o k z = (m, (0, 0), 43) ∧ longest (leftR m k) < z ∧ (first (leftR m k) z).2 = false) := by
  unfold drawR
  rw [if_neg (by omega)]
  by_cases hk : 0 < k ∧ (m.at k).1 = 0
  · rw [if_pos hk]
    refine Or.inr (Or.inl ⟨rfl, hk.1, hk.2, ?_⟩)
    unfold leftR
    rw [if_pos (Or.inr (Or.inr hk))]
    unfold first
    rw [if_neg (by omega)]
    rfl
  · rw [if_neg hk]
    by_cases hf : (first (leftR m k) z).2 = true
    · rw [if_pos hf]
      obtain ⟨h3, h4⟩ := first_ok hf
      exact Or.inl ⟨_, rfl, h3, h4, by rw [← hf]⟩
    · rw [if_neg hf]
      have hf' : (first (leftR m k) z).2 = false := by simpa using hf
      refine Or.inr (Or.inr ⟨rfl, ?_, hf'⟩)
      rcases (first_no hf').2 with h3 | h3
      · omega
      · exact h3
/-- Lowest: what is drawn can be taken alike -/
theorem take_drawn {m : Spc} (h : WF m) {o k : Int} (ho : 1 ≤ o) (h0 : 0 ≤ k) (h2 : k ≤ 2) {s : S} (hs : has (leftR m k) s = true) : takeR m o s = (putR m ⟨s, o, k⟩, 0) := by
  have hos := has_owns h h0 h2 hs
  have hos' := owns_iff.1 hos
  have hreg := ((has_left h h0 h2 hs).2 s.1 (Int.le_refl _) hos'.2.1).1
  have hj : ∀ j, 0 ≤ j → j ≤ 2 → has (leftR m j) s = true → j = k := fun j j0 j2 hj => reg_dis h j0 j2 h0 h2 ((has_left h j0 j2 hj).2 s.1 (Int.le_refl _) hos'.2.1).1 hreg
  have hin : inR m s = k := by
    unfold inR
    split
    · exact hj 0 (by omega) (by omega) (by assumption)
    · split
      · exact hj 1 (by omega) (by omega) (by assumption)
      · split
        · exact hj 2 (by omega) (by omega) (by assumption)
        · exfalso
          have : k = 0 ∨ k = 1 ∨ k = 2 := by omega
          rcases this with rfl | rfl | rfl
          · contradiction
          · contradiction
          · contradiction
  unfold takeR
  rw [if_neg (by omega), if_neg (by rw [hos]; simp), if_neg (by omega), hin]
end Go.Proofs.YtilahcnpjbnjiaaGreatDoor.Sp
