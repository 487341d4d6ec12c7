/- Plain facts on rows of spans: normal rows are fixed by their labels; insertion keeps them normal. No program in sight. -/
import GoSem.Core.Value
namespace Go.Proofs.Ytbeombmblifohaa.Sp
set_option linter.unusedVariables false
set_option linter.unusedSimpArgs false

abbrev S := Int × Int

def mayB (s : S) : Bool := decide (0 ≤ s.1) && decide (s.1 ≤ s.2) && decide (s.2 ≤ 1048575)
theorem mayB_iff {s : S} : mayB s = true ↔ 0 ≤ s.1 ∧ s.1 ≤ s.2 ∧ s.2 ≤ 1048575 := by
  simp [mayB, and_assoc]

/-- the rows' labels -/
def In (l : List S) (n : Int) : Prop := ∃ s ∈ l, mayB s = true ∧ s.1 ≤ n ∧ n ≤ s.2
theorem in_nil (n : Int) : ¬ In [] n := by simp [In]
theorem in_cons {s : S} {l : List S} {n : Int} : In (s :: l) n ↔ (mayB s = true ∧ s.1 ≤ n ∧ n ≤ s.2) ∨ In l n := by
  simp [In]
theorem in_append {l m : List S} {n : Int} : In (l ++ m) n ↔ In l n ∨ In m n := by
  induction l with
  | nil => simp [in_nil]
  | cons s l ih => simp only [List.cons_append, in_cons, ih, or_assoc]

def inB (l : List S) (n : Int) : Bool := l.any fun s => mayB s && decide (s.1 ≤ n) && decide (n ≤ s.2)
theorem inB_iff {l : List S} {n : Int} : inB l n = true ↔ In l n := by simp [inB, In, and_assoc]
theorem inB_of {l : List S} {n : Int} {b : Bool} (h : b = true ↔ In l n) : inB l n = b := by
  cases b
  · cases hb : inB l n
    · rfl
    · exact absurd (h.2 (inB_iff.1 hb)) (by simp)
  · exact inB_iff.2 (h.1 rfl)
theorem in_take {l : List S} (n : Int) {k : Nat} (h : k < l.length) : In (l.take (k + 1)) n ↔ In (l.take k) n ∨ (mayB l[k] = true ∧ l[k].1 ≤ n ∧ n ≤ l[k].2) := by
  rw [List.take_succ_eq_append_getElem h, in_append, in_cons]
  simp [in_nil]

/-- disjoint, apart, rising -/
def Nrm : List S → Prop
  | [] => True
  | s :: r => mayB s = true ∧ (∀ t ∈ r, s.2 + 1 < t.1) ∧ Nrm r

theorem Nrm.may {l : List S} (h : Nrm l) : ∀ s ∈ l, mayB s = true := by
  induction l with
  | nil => simp
  | cons a r ih =>
    intro s hs
    rcases List.mem_cons.1 hs with rfl | hs
    · exact h.1
    · exact ih h.2.2 s hs

theorem Nrm.uniq : ∀ {a b : List S}, Nrm a → Nrm b → (∀ n, In a n ↔ In b n) → a = b
  | [], [], _, _, _ => rfl
  | [], t :: r, _, hb, h => by
    have ht := mayB_iff.1 hb.1
    exact absurd ((h t.1).2 (in_cons.2 (.inl ⟨hb.1, Int.le_refl _, ht.2.1⟩))) (in_nil _)
  | s :: r, [], ha, _, h => by
    have hs := mayB_iff.1 ha.1
    exact absurd ((h s.1).1 (in_cons.2 (.inl ⟨ha.1, Int.le_refl _, hs.2.1⟩))) (in_nil _)
  | s :: q, t :: r, ha, hb, h => by
    have hs := mayB_iff.1 ha.1
    have ht := mayB_iff.1 hb.1
    have low : ∀ {x : S} {l : List S} {n : Int}, Nrm (x :: l) → In (x :: l) n → x.1 ≤ n := by
      intro x l n hx hn
      rcases in_cons.1 hn with hn | ⟨y, hy, _, h1, _⟩
      · exact hn.2.1
      · have := hx.2.1 y hy
        have := mayB_iff.1 hx.1
        omega
    have e1 : s.1 = t.1 := by
      have h1 := low hb ((h s.1).1 (in_cons.2 (.inl ⟨ha.1, Int.le_refl _, hs.2.1⟩)))
      have h2 := low ha ((h t.1).2 (in_cons.2 (.inl ⟨hb.1, Int.le_refl _, ht.2.1⟩)))
      omega
    have out : ∀ {x : S} {l : List S}, Nrm (x :: l) → ¬ In (x :: l) (x.2 + 1) := by
      intro x l hx hn
      rcases in_cons.1 hn with hn | ⟨y, hy, _, h1, _⟩
      · omega
      · have := hx.2.1 y hy
        omega
    have e2 : s.2 = t.2 := by
      rcases Int.lt_trichotomy s.2 t.2 with hlt | he | hgt
      · exact absurd ((h (s.2 + 1)).2 (in_cons.2 (.inl ⟨hb.1, by omega, by omega⟩))) (out ha)
      · exact he
      · exact absurd ((h (t.2 + 1)).1 (in_cons.2 (.inl ⟨ha.1, by omega, by omega⟩))) (out hb)
    have est : s = t := Prod.ext e1 e2
    subst est
    have hrec : q = r := Nrm.uniq ha.2.2 hb.2.2 fun n => by
      have tail : ∀ {l : List S}, Nrm (s :: l) → In l n → s.2 + 1 < n := by
        intro l hl hn
        obtain ⟨y, hy, _, h1, _⟩ := hn
        have := hl.2.1 y hy
        omega
      constructor
      · intro hn
        have hb' := tail ha hn
        rcases in_cons.1 ((h n).1 (in_cons.2 (.inr hn))) with hx | hx
        · omega
        · exact hx
      · intro hn
        have hb' := tail hb hn
        rcases in_cons.1 ((h n).2 (in_cons.2 (.inr hn))) with hx | hx
        · omega
        · exact hx
    rw [hrec]

/-- a span more -/
def ins (s : S) : List S → List S
  | [] => [s]
  | t :: r => if s.2 + 1 < t.1 then s :: t :: r else if t.2 + 1 < s.1 then t :: ins s r else ins (min s.1 t.1, max s.2 t.2) r

theorem ins_low {s : S} {l : List S} {b : Int} (hs : b < s.1) (hl : ∀ t ∈ l, b < t.1) : ∀ t ∈ ins s l, b < t.1 := by
  induction l generalizing s with
  | nil => simpa [ins] using hs
  | cons a r ih =>
    have ha := hl a (by simp)
    have hr := fun t ht => hl t (List.mem_cons_of_mem _ ht)
    unfold ins
    split
    · intro t ht
      rcases List.mem_cons.1 ht with rfl | ht
      · exact hs
      · exact hl t ht
    · split
      · intro t ht
        rcases List.mem_cons.1 ht with rfl | ht
        · exact ha
        · exact ih hs hr t ht
      · exact ih (by simp only; omega) hr

theorem ins_ok {s : S} {l : List S} (hs : mayB s = true) (hl : Nrm l) : Nrm (ins s l) ∧ ∀ n, In (ins s l) n ↔ (s.1 ≤ n ∧ n ≤ s.2) ∨ In l n := by
  induction l generalizing s with
  | nil => exact ⟨⟨hs, by simp, trivial⟩, fun n => by simp [ins, in_cons, hs]⟩
  | cons a r ih =>
    have ha := mayB_iff.1 hl.1
    have h := mayB_iff.1 hs
    unfold ins
    split
    · rename_i h1
      refine ⟨⟨hs, fun t ht => ?_, hl⟩, fun n => by simp [in_cons, hs]⟩
      rcases List.mem_cons.1 ht with rfl | ht
      · exact h1
      · have := hl.2.1 t ht
        omega
    · split
      · rename_i h1 h2
        have hi := ih hs hl.2.2
        refine ⟨⟨hl.1, ins_low h2 hl.2.1, hi.1⟩, fun n => ?_⟩
        rw [in_cons, hi.2, in_cons]
        constructor
        · rintro (h | h | h)
          · exact .inr (.inl h)
          · exact .inl h
          · exact .inr (.inr h)
        · rintro (h | h | h)
          · exact .inr (.inl h)
          · exact .inl h
          · exact .inr (.inr h)
      · rename_i h1 h2
        have hm : mayB (min s.1 a.1, max s.2 a.2) = true := mayB_iff.2 ⟨by simp only; omega, by simp only; omega, by simp only; omega⟩
        have hi := ih hm hl.2.2
        refine ⟨hi.1, fun n => ?_⟩
        rw [hi.2, in_cons]
        simp only
        constructor
        · rintro (h3 | h3)
          · by_cases h4 : s.1 ≤ n ∧ n ≤ s.2
            · exact .inl h4
            · exact .inr (.inl ⟨hl.1, by omega, by omega⟩)
          · exact .inr (.inr h3)
        · rintro (h3 | h3 | h3)
          · exact .inl ⟨by omega, by omega⟩
          · exact .inl ⟨by omega, by omega⟩
          · exact .inr h3

/-- rows as disjoint ones -/
def norm : List S → List S
  | [] => []
  | s :: r => if mayB s = true then ins s (norm r) else norm r

theorem norm_ok (l : List S) : Nrm (norm l) ∧ ∀ n, In (norm l) n ↔ In l n := by
  induction l with
  | nil => exact ⟨trivial, fun n => Iff.rfl⟩
  | cons s r ih =>
    unfold norm
    split
    · rename_i h
      have hi := ins_ok h ih.1
      exact ⟨hi.1, fun n => by rw [hi.2, in_cons, ih.2]; simp [h]⟩
    · rename_i h
      exact ⟨ih.1, fun n => by rw [ih.2, in_cons]; simp [h]⟩

theorem norm_of {l m : List S} (hm : Nrm m) (h : ∀ n, In m n ↔ In l n) : m = norm l :=
  Nrm.uniq hm (norm_ok l).1 fun n => (h n).trans ((norm_ok l).2 n).symm
theorem norm_eq {l m : List S} (h : ∀ n, In l n ↔ In m n) : norm l = norm m :=
  Nrm.uniq (norm_ok l).1 (norm_ok m).1 fun n => ((norm_ok l).2 n).trans ((h n).trans ((norm_ok m).2 n).symm)
theorem norm_norm (l : List S) : norm (norm l) = norm l := norm_eq (norm_ok l).2
theorem norm_self {l : List S} (h : Nrm l) : norm l = l := (norm_of h fun _ => Iff.rfl).symm

theorem ins_length (s : S) (l : List S) : (ins s l).length ≤ l.length + 1 := by
  induction l generalizing s with
  | nil => simp [ins]
  | cons a r ih =>
    unfold ins
    split
    · simp
    · split
      · have := ih s; simp; omega
      · have := ih (min s.1 a.1, max s.2 a.2); simp; omega
theorem norm_length (l : List S) : (norm l).length ≤ l.length := by
  induction l with
  | nil => simp [norm]
  | cons s r ih =>
    unfold norm
    split
    · have := ins_length s (norm r); simp; omega
    · simp; omega

/-- a span less: the pieces -/
def pieces (s : S) (l : List S) : List S := l.flatMap fun x => [(x.1, min x.2 (s.1 - 1)), (max x.1 (s.2 + 1), x.2)]
def add (l : List S) (s : S) : List S := norm (l ++ [s])
def cut (l : List S) (s : S) : List S := if mayB s = true then norm (pieces s (norm l)) else norm l
def has (l : List S) (s : S) : Bool := mayB s && (norm l).any fun x => decide (x.1 ≤ s.1) && decide (s.2 ≤ x.2)
def meets (l : List S) (s : S) : Bool := mayB s && (norm l).any fun x => decide (x.1 ≤ s.2) && decide (s.1 ≤ x.2)
def size (s : S) : Int := s.2 - s.1 + 1
def first (l : List S) (many : Int) : S × Bool :=
  if many < 1 then ((0, 0), false) else
    match (norm l).find? fun s => decide (many ≤ size s) with
    | some s => ((s.1, s.1 + many - 1), true)
    | none => ((0, 0), false)
def total : List S → Int
  | [] => 0
  | s :: r => size s + total r
def count (l : List S) : Int := total (norm l)
def most : List S → Int
  | [] => 0
  | s :: r => max (size s) (most r)
def longest (l : List S) : Int := most (norm l)

theorem total_append (a b : List S) : total (a ++ b) = total a + total b := by
  induction a with
  | nil => simp [total]
  | cons s r ih => simp only [List.cons_append, total, ih]; omega
theorem total_take {l : List S} {k : Nat} (h : k < l.length) : total (l.take (k + 1)) = total (l.take k) + size l[k] := by
  rw [List.take_succ_eq_append_getElem h, total_append]; simp [total]
theorem size_bd {s : S} (h : mayB s = true) : 1 ≤ size s ∧ size s ≤ 1048576 := by
  have := mayB_iff.1 h; unfold size; omega
theorem total_bd {l : List S} (h : ∀ s ∈ l, mayB s = true) : 0 ≤ total l ∧ total l ≤ l.length * 1048576 := by
  induction l with
  | nil => simp [total]
  | cons s r ih =>
    have h1 := size_bd (h s (by simp))
    have h2 := ih fun x hx => h x (List.mem_cons_of_mem _ hx)
    simp only [total, List.length_cons]
    omega
theorem total_take_bd {l : List S} (h : ∀ s ∈ l, mayB s = true) (k : Nat) (hk : k ≤ l.length) : 0 ≤ total (l.take k) ∧ total (l.take k) ≤ k * 1048576 := by
  have := total_bd (l := l.take k) fun s hs => h s (List.mem_of_mem_take hs)
  rw [List.length_take, Nat.min_eq_left hk] at this
  exact this
theorem most_append (a b : List S) : most (a ++ b) = max (most a) (most b) := by
  induction a with
  | nil =>
    have : 0 ≤ most b := by
      induction b with
      | nil => simp [most]
      | cons s r ih => simp only [most]; omega
    simp only [List.nil_append, most]; omega
  | cons s r ih => simp only [List.cons_append, most, ih]; omega
theorem most_nonneg (b : List S) : 0 ≤ most b := by
  induction b with
  | nil => simp [most]
  | cons s r ih => simp only [most]; omega
theorem most_take {l : List S} {k : Nat} (h : k < l.length) : most (l.take (k + 1)) = max (most (l.take k)) (size l[k]) := by
  have := most_nonneg (l.take k)
  rw [List.take_succ_eq_append_getElem h, most_append]; simp only [most]; omega
theorem most_bd {l : List S} (h : ∀ s ∈ l, mayB s = true) : 0 ≤ most l ∧ most l ≤ 1048576 := by
  induction l with
  | nil => simp [most]
  | cons s r ih =>
    have h1 := size_bd (h s (by simp))
    have h2 := ih fun x hx => h x (List.mem_cons_of_mem _ hx)
    simp only [most]
    omega

theorem in_pieces {s : S} (hs : mayB s = true) {l : List S} (hl : ∀ x ∈ l, mayB x = true) (n : Int) : In (pieces s l) n ↔ In l n ∧ ¬ (s.1 ≤ n ∧ n ≤ s.2) := by
  have h := mayB_iff.1 hs
  induction l with
  | nil => simp [pieces, in_nil]
  | cons x r ih =>
    have hx := mayB_iff.1 (hl x (by simp))
    have hr : In (pieces s r) n ↔ In r n ∧ ¬ (s.1 ≤ n ∧ n ≤ s.2) := ih fun y hy => hl y (List.mem_cons_of_mem _ hy)
    have hp : pieces s (x :: r) = (x.1, min x.2 (s.1 - 1)) :: (max x.1 (s.2 + 1), x.2) :: pieces s r := rfl
    rw [hp, in_cons, in_cons, in_cons, hr]
    simp only [mayB_iff]
    constructor
    · rintro (h1 | h1 | h1)
      · exact ⟨.inl ⟨hx, by omega, by omega⟩, by omega⟩
      · exact ⟨.inl ⟨hx, by omega, by omega⟩, by omega⟩
      · exact ⟨.inr h1.1, h1.2⟩
    · rintro ⟨h1 | h1, h2⟩
      · by_cases h3 : n < s.1
        · exact .inl ⟨by omega, by omega, by omega⟩
        · exact .inr (.inl ⟨by omega, by omega, by omega⟩)
      · exact .inr (.inr ⟨h1, h2⟩)

theorem in_add (l : List S) (s : S) (n : Int) : In (add l s) n ↔ In l n ∨ (mayB s = true ∧ s.1 ≤ n ∧ n ≤ s.2) := by
  unfold add
  rw [(norm_ok _).2, in_append, in_cons]
  simp [in_nil]
theorem in_cut (l : List S) (s : S) (n : Int) : In (cut l s) n ↔ In l n ∧ ¬ (mayB s = true ∧ s.1 ≤ n ∧ n ≤ s.2) := by
  unfold cut
  split
  · rename_i h
    rw [(norm_ok _).2, in_pieces h ((norm_ok l).1.may), (norm_ok l).2]
    simp [h]
  · rename_i h
    rw [(norm_ok _).2]
    simp [h]
theorem cut_nrm (l : List S) (s : S) : Nrm (cut l s) := by
  unfold cut
  split
  · exact (norm_ok _).1
  · exact (norm_ok _).1
theorem add_nrm (l : List S) (s : S) : Nrm (add l s) := (norm_ok _).1

/-! ## what footplateref11's loops keep -/

theorem mem_take {α : Type} {l : List α} {k : Nat} (h : k < l.length) {x : α} : x ∈ l.take (k + 1) ↔ x ∈ l.take k ∨ x = l[k] := by
  rw [List.take_succ_eq_append_getElem h, List.mem_append, List.mem_singleton]

/-- within a round of 'last': from m up to m' all are there; b: it has grown -/
def LastIn (l : List S) (n m m' : Int) (b : Bool) (k : Nat) : Prop :=
  m ≤ m' ∧ m' ≤ 1048575 ∧ (∀ x, n < x → x ≤ m' → In l x) ∧ (b = false → m' = m ∧ ∀ s ∈ l.take k, mayB s = true → s.1 ≤ m + 1 → s.2 ≤ m) ∧ (b = true → m < m')
/-- at a round's head -/
def LastAt (l : List S) (n m : Int) (b : Bool) : Prop :=
  n ≤ m ∧ m ≤ 1048575 ∧ (∀ x, n < x → x ≤ m → In l x) ∧ (b = false → ∀ s ∈ l, mayB s = true → s.1 ≤ m + 1 → s.2 ≤ m)
theorem LastAt.first (l : List S) {n : Int} (h : n ≤ 1048575) : LastAt l n n true := ⟨Int.le_refl _, h, fun x h1 h2 => by omega, fun e => by cases e⟩
theorem LastAt.start {l : List S} {n m : Int} (h : LastAt l n m true) : LastIn l n m m false 0 := ⟨Int.le_refl _, h.2.1, h.2.2.1, fun _ => ⟨rfl, by simp⟩, fun e => by cases e⟩
theorem LastIn.skip {l : List S} {n m m' : Int} {b : Bool} {k : Nat} (h : LastIn l n m m' b k) (hk : k < l.length) (hs : mayB l[k] = true → l[k].1 ≤ m' + 1 → l[k].2 ≤ m') : LastIn l n m m' b (k + 1) := by
  obtain ⟨h1, h2, h3, h4, h5⟩ := h
  refine ⟨h1, h2, h3, fun hb => ⟨(h4 hb).1, fun s hs' hm h6 => ?_⟩, h5⟩
  have e := (h4 hb).1
  rcases (mem_take hk).1 hs' with h7 | rfl
  · exact (h4 hb).2 s h7 hm h6
  · subst e; exact hs hm h6
theorem LastIn.grow {l : List S} {n m m' : Int} {b : Bool} {k : Nat} (h : LastIn l n m m' b k) (hk : k < l.length) (hm : mayB l[k] = true) (h1 : l[k].1 ≤ m' + 1) (h2 : m' < l[k].2) : LastIn l n m l[k].2 true (k + 1) := by
  obtain ⟨g1, g2, g3, g4, g5⟩ := h
  have hb := mayB_iff.1 hm
  refine ⟨by omega, by omega, fun x hx1 hx2 => ?_, (fun e => by cases e), fun _ => by omega⟩
  by_cases hx : x ≤ m'
  · exact g3 x hx1 hx
  · exact ⟨l[k], List.getElem_mem hk, hm, by omega, hx2⟩
theorem LastIn.done {l : List S} {n m m' : Int} {b : Bool} {k : Nat} (h : LastIn l n m m' b k) (hn : n ≤ m) (hk : ¬ k < l.length) : LastAt l n m' b := by
  obtain ⟨g1, g2, g3, g4, g5⟩ := h
  refine ⟨by omega, g2, g3, fun hb s hs hm h1 => ?_⟩
  rw [List.take_of_length_le (by omega)] at g4
  obtain ⟨rfl, g⟩ := g4 hb
  exact g s hs hm h1
theorem LastIn.less {l : List S} {n m m' : Int} {b : Bool} {k : Nat} (h : LastIn l n m m' b k) (hn : 0 ≤ n) (hm : n ≤ m) : 2 * (1048576 - m'.toNat) + b.toNat < 2 * (1048576 - m.toNat) + 1 := by
  obtain ⟨g1, g2, g3, g4, g5⟩ := h
  cases b
  · have := (g4 rfl).1; simp; omega
  · have := g5 rfl; simp; omega

/-- the end of the last row; -1 if there is none -/
def bound (m : List S) : Int := match m.getLast? with | none => -1 | some s => s.2
theorem bound_nil : bound [] = -1 := rfl
theorem bound_last {m : List S} (h : 0 < m.length) : bound m = (m[m.length - 1]).2 := by
  unfold bound
  rw [List.getLast?_eq_getElem?, List.getElem?_eq_getElem (by omega)]
theorem bound_snoc (m : List S) (s : S) : bound (m ++ [s]) = s.2 := by simp [bound]
/-- what footplateref11.Norm has collected -/
def NormAt (l m : List S) : Prop :=
  Nrm m ∧ (∀ s ∈ m, s.2 ≤ bound m) ∧ -1 ≤ bound m ∧ bound m ≤ 1048575 ∧ (m.length : Int) ≤ bound m + 1 ∧ (∀ n, n ≤ bound m → (In m n ↔ In l n)) ∧ (m ≠ [] → ∀ s ∈ l, mayB s = true → s.1 ≤ bound m + 1 → s.2 ≤ bound m)
theorem NormAt.nil (l : List S) : NormAt l [] := ⟨trivial, by simp, by simp [bound_nil], by simp [bound_nil], by simp [bound_nil], fun n hn => by
  rw [bound_nil] at hn
  constructor
  · intro h; exact absurd h (in_nil n)
  · rintro ⟨s, _, hs, h1, _⟩; have := mayB_iff.1 hs; omega, fun h => absurd rfl h⟩
/-- the lowest first label behind the bound, among the first k -/
def LowAt (l m : List S) (at_ : Int) (k : Nat) : Prop :=
  (at_ = -1 ∧ ∀ s ∈ l.take k, mayB s = true → s.1 ≤ bound m) ∨ (0 ≤ at_ ∧ at_ ≤ 1048575 ∧ bound m < at_ ∧ (∃ s ∈ l, mayB s = true ∧ s.1 = at_) ∧ ∀ s ∈ l.take k, mayB s = true → bound m < s.1 → at_ ≤ s.1)
theorem LowAt.start (l m : List S) : LowAt l m (-1) 0 := .inl ⟨rfl, by simp⟩
theorem LowAt.skip {l m : List S} {a : Int} {k : Nat} (h : LowAt l m a k) (hk : k < l.length) (hs : mayB l[k] = true → bound m < l[k].1 → 0 ≤ a ∧ a ≤ l[k].1) : LowAt l m a (k + 1) := by
  rcases h with ⟨rfl, h⟩ | ⟨h1, h2, h3, h4, h5⟩
  · refine .inl ⟨rfl, fun s hs' hm => ?_⟩
    rcases (mem_take hk).1 hs' with h6 | rfl
    · exact h s h6 hm
    · by_cases hb : bound m < l[k].1
      · have := hs hm hb; omega
      · omega
  · refine .inr ⟨h1, h2, h3, h4, fun s hs' hm hb => ?_⟩
    rcases (mem_take hk).1 hs' with h6 | rfl
    · exact h5 s h6 hm hb
    · exact (hs hm hb).2
theorem LowAt.take {l m : List S} {a : Int} {k : Nat} (h : LowAt l m a k) (hk : k < l.length) (hm : mayB l[k] = true) (hb : bound m < l[k].1) (ha : a < 0 ∨ l[k].1 < a) : LowAt l m l[k].1 (k + 1) := by
  have hmm := mayB_iff.1 hm
  refine .inr ⟨hmm.1, by omega, hb, ⟨_, List.getElem_mem hk, hm, rfl⟩, fun s hs' hm' hb' => ?_⟩
  rcases (mem_take hk).1 hs' with h6 | rfl
  · rcases h with ⟨rfl, h⟩ | ⟨h1, h2, h3, h4, h5⟩
    · have := h s h6 hm'; omega
    · have := h5 s h6 hm' hb'; omega
  · exact Int.le_refl _
theorem LowAt.none {l m : List S} {a : Int} {k : Nat} (h : LowAt l m a k) (hN : NormAt l m) (hk : ¬ k < l.length) (ha : a < 0) : m = norm l := by
  rcases h with ⟨rfl, h⟩ | ⟨h1, _⟩
  · obtain ⟨n1, n2, n3, n4, n5, n6, n7⟩ := hN
    rw [List.take_of_length_le (by omega)] at h
    refine norm_of n1 fun n => ?_
    by_cases hn : n ≤ bound m
    · exact n6 n hn
    · constructor
      · rintro ⟨s, hs, _, _, h2⟩; have := n2 s hs; omega
      · rintro ⟨s, hs, hm, h1, h2⟩
        have hb := h s hs hm
        by_cases hmn : m = []
        · subst hmn; rw [bound_nil] at hb; have := mayB_iff.1 hm; omega
        · have := n7 hmn s hs hm (by omega); omega
  · omega
theorem LowAt.some {l m : List S} {a : Int} {k : Nat} (h : LowAt l m a k) (ha : ¬ a < 0) : 0 ≤ a ∧ a ≤ 1048575 ∧ bound m < a := by
  rcases h with ⟨rfl, _⟩ | ⟨h1, h2, h3, _⟩
  · omega
  · exact ⟨h1, h2, h3⟩
theorem LowAt.snoc {l m : List S} {a e : Int} {k : Nat} (h : LowAt l m a k) (hN : NormAt l m) (hk : ¬ k < l.length) (ha : ¬ a < 0) (h1 : a ≤ e) (h2 : e ≤ 1048575) (h3 : ∀ x, a < x → x ≤ e → In l x) (h4 : ∀ s ∈ l, mayB s = true → s.1 ≤ e + 1 → s.2 ≤ e) : NormAt l (m ++ [(a, e)]) := by
  rcases h with ⟨rfl, _⟩ | ⟨g1, g2, g3, ⟨s0, hs0, hm0, e0⟩, g5⟩
  · omega
  obtain ⟨n1, n2, n3, n4, n5, n6, n7⟩ := hN
  rw [List.take_of_length_le (by omega)] at g5
  have hgap : bound m + 1 < a ∨ m = [] := by
    by_cases hmn : m = []
    · exact .inr hmn
    · refine .inl ?_
      by_cases hx : a = bound m + 1
      · have := n7 hmn s0 hs0 hm0 (by omega); have := mayB_iff.1 hm0; omega
      · omega
  have hnm : ∀ (q : List S), Nrm q → (∀ s ∈ q, s.2 + 1 < a) → Nrm (q ++ [(a, e)]) := by
    intro q hq
    induction q with
    | nil => intro _; exact ⟨mayB_iff.2 ⟨g1, h1, h2⟩, by simp, trivial⟩
    | cons t r ih =>
      intro hb
      refine ⟨hq.1, fun y hy => ?_, ih hq.2.2 fun s hs => hb s (List.mem_cons_of_mem _ hs)⟩
      rcases List.mem_append.1 hy with hy | hy
      · exact hq.2.1 y hy
      · simp at hy; subst hy; exact hb t (by simp)
  refine ⟨hnm m n1 fun s hs => ?_, ?_, ?_, ?_, ?_, ?_, ?_⟩
  · rcases hgap with h | h
    · have := n2 s hs; omega
    · subst h; simp at hs
  · intro s hs
    rw [bound_snoc]
    rcases List.mem_append.1 hs with hs | hs
    · have := n2 s hs; simp only; omega
    · simp at hs; subst hs; exact Int.le_refl _
  · rw [bound_snoc]; simp only; omega
  · rw [bound_snoc]; exact h2
  · rw [bound_snoc]; simp; omega
  · intro n hn
    rw [bound_snoc] at hn
    rw [in_append, in_cons]
    simp only [in_nil, or_false]
    have hmay : mayB (a, e) = true := mayB_iff.2 ⟨g1, h1, h2⟩
    constructor
    · rintro (h | ⟨_, h5, h6⟩)
      · have hle : n ≤ bound m := by obtain ⟨s, hs, _, _, h2'⟩ := h; have := n2 s hs; omega
        exact (n6 n hle).1 h
      · by_cases hx : n = a
        · subst hx; exact ⟨s0, hs0, hm0, by omega, by have := mayB_iff.1 hm0; omega⟩
        · exact h3 n (by omega) hn
    · rintro ⟨s, hs, hm, h5, h6⟩
      by_cases hle : n ≤ bound m
      · exact .inl ((n6 n hle).2 ⟨s, hs, hm, h5, h6⟩)
      · refine .inr ⟨hmay, ?_, hn⟩
        by_cases hb : bound m < s.1
        · have := g5 s hs hm hb; omega
        · by_cases hmn : m = []
          · subst hmn; rw [bound_nil] at hb; have := mayB_iff.1 hm; omega
          · have := n7 hmn s hs hm (by omega); omega
  · intro _ s hs hm h5
    rw [bound_snoc] at h5 ⊢
    exact h4 s hs hm h5

/-! ## what spans.joined's loop keeps -/
def Rising (d : List S) : Prop := d.Pairwise fun a b => a.1 ≤ b.1
def jstep (m : List S) (s : S) : List S :=
  match m.getLast? with
  | none => [s]
  | some t => if s.1 ≤ t.2 + 1 then m.dropLast ++ [(t.1, max t.2 s.2)] else m ++ [s]
def joinF (l : List S) : List S := l.foldl jstep []
theorem joinF_snoc (l : List S) (s : S) : joinF (l ++ [s]) = jstep (joinF l) s := by simp [joinF]
theorem jstep_nil (s : S) : jstep [] s = [s] := rfl
theorem jstep_hit {m : List S} {s : S} {q : Nat} (hq : q < m.length) (e : q = m.length - 1) (h : s.1 ≤ m[q].2 + 1) : jstep m s = m.set q (m[q].1, max m[q].2 s.2) := by
  have hg : m.getLast? = some m[q] := by subst e; rw [List.getLast?_eq_getElem?, List.getElem?_eq_getElem]
  unfold jstep
  rw [hg]
  simp only [h, if_true]
  have hm : m = m.dropLast ++ [m[q]] := by
    have hne : m ≠ [] := by intro h0; subst h0; simp at hq
    have := List.dropLast_concat_getLast hne
    rw [List.getLast?_eq_some_getLast hne] at hg
    simp only [Option.some.injEq] at hg
    rw [← hg]; exact this.symm
  have hl : m.dropLast.length = q := by simp; omega
  generalize m[q] = x at hm ⊢
  generalize m.dropLast = p at hm hl ⊢
  subst hm
  subst hl
  simp [List.set_append]
theorem jstep_miss {m : List S} {s : S} {q : Nat} (hq : q < m.length) (e : q = m.length - 1) (h : ¬ s.1 ≤ m[q].2 + 1) : jstep m s = m ++ [s] := by
  have hg : m.getLast? = some m[q] := by subst e; rw [List.getLast?_eq_getElem?, List.getElem?_eq_getElem]
  unfold jstep
  rw [hg]
  simp only [h, if_false]
theorem jstep_length (m : List S) (s : S) : (jstep m s).length ≤ m.length + 1 := by
  unfold jstep
  cases h : m.getLast? with
  | none => simp
  | some t =>
    simp only
    split
    · simp; try omega
    · simp
theorem joinF_length (l : List S) : (joinF l).length ≤ l.length := by
  have h : ∀ (l m : List S), (l.foldl jstep m).length ≤ m.length + l.length := by
    intro l
    induction l with
    | nil => intro m; simp
    | cons s r ih => intro m; have h1 := ih (jstep m s); have h2 := jstep_length m s; simp only [List.foldl_cons, List.length_cons] at h1 ⊢; omega
  have := h l []
  unfold joinF
  simpa using this
/-- m, rising and apart, its last row t -/
def LastOf (m : List S) (t : S) : Prop := ∃ p, m = p ++ [t]
theorem nrm_snoc {p : List S} {t : S} : Nrm (p ++ [t]) ↔ Nrm p ∧ mayB t = true ∧ ∀ s ∈ p, s.2 + 1 < t.1 := by
  induction p with
  | nil => simp [Nrm]
  | cons a r ih =>
    simp only [List.cons_append, Nrm, ih, List.mem_append, List.mem_singleton, List.mem_cons, List.not_mem_nil, or_false]
    constructor
    · rintro ⟨h1, h2, h3, h4, h5⟩
      exact ⟨⟨h1, fun x hx => h2 x (.inl hx), h3⟩, h4, fun s hs => by rcases hs with rfl | hs; exact h2 t (.inr rfl); exact h5 s hs⟩
    · rintro ⟨⟨h1, h2, h3⟩, h4, h5⟩
      exact ⟨h1, fun x hx => by rcases hx with hx | rfl; exact h2 x hx; exact h5 a (.inl rfl), h3, h4, fun s hs => h5 s (.inr hs)⟩
theorem joinF_ok : ∀ {l : List S}, (∀ s ∈ l, mayB s = true) → Rising l → Nrm (joinF l) ∧ (∀ n, In (joinF l) n ↔ In l n) ∧ ∀ t ∈ joinF l, ∃ y ∈ l, y.1 = t.1 := by
  intro l
  have rev : ∀ (k : Nat) (l : List S), l.length = k → (∀ s ∈ l, mayB s = true) → Rising l → Nrm (joinF l) ∧ (∀ n, In (joinF l) n ↔ In l n) ∧ ∀ t ∈ joinF l, ∃ y ∈ l, y.1 = t.1 := by
    intro k
    induction k with
    | zero =>
      intro l h0 _ _
      have : l = [] := List.eq_nil_of_length_eq_zero h0
      subst this
      exact ⟨trivial, fun n => Iff.rfl, by simp [joinF]⟩
    | succ k ih =>
      intro l hl hm hr
      have hne : l ≠ [] := by intro h; subst h; simp at hl
      obtain ⟨p, s, rfl⟩ : ∃ p s, l = p ++ [s] := ⟨l.dropLast, l.getLast hne, (List.dropLast_concat_getLast hne).symm⟩
      have hpl : p.length = k := by simp at hl; exact hl
      have hmp : ∀ x ∈ p, mayB x = true := fun x hx => hm x (List.mem_append_left _ hx)
      have hs := hm s (by simp)
      have hrr := List.pairwise_append.1 hr
      obtain ⟨g1, g2, g3⟩ := ih p hpl hmp hrr.1
      have hps : ∀ x ∈ p, x.1 ≤ s.1 := fun x hx => hrr.2.2 x hx s (by simp)
      have hb := mayB_iff.1 hs
      rw [joinF_snoc]
      generalize joinF p = m at g1 g2 g3 ⊢
      by_cases hmn : m = []
      · subst hmn
        rw [jstep_nil]
        refine ⟨⟨hs, by simp, trivial⟩, fun n => ?_, fun t ht => ⟨s, by simp, by simp at ht; rw [ht]⟩⟩
        rw [in_cons, in_append, in_cons, ← g2]
        simp [in_nil]
      · obtain ⟨q, t, rfl⟩ : ∃ q t, m = q ++ [t] := ⟨m.dropLast, m.getLast hmn, (List.dropLast_concat_getLast hmn).symm⟩
        have hg : (q ++ [t]).getLast? = some t := by simp
        obtain ⟨n1, n2, n3⟩ := nrm_snoc.1 g1
        have hbt := mayB_iff.1 n2
        obtain ⟨y, hy, hyt⟩ := g3 t (by simp)
        have hts : t.1 ≤ s.1 := by have := hps y hy; omega
        unfold jstep
        rw [hg]
        simp only
        split
        · rename_i hh
          have hmx : mayB (t.1, max t.2 s.2) = true := mayB_iff.2 ⟨hbt.1, by simp only; omega, by simp only; omega⟩
          rw [List.dropLast_concat]
          refine ⟨nrm_snoc.2 ⟨n1, hmx, n3⟩, fun n => ?_, fun x hx => ?_⟩
          · rw [in_append, in_cons, in_append, in_cons, ← g2, in_append, in_cons]
            simp only [in_nil, or_false, hmx, n2, hs, true_and]
            constructor
            · rintro (h | h)
              · exact .inl (.inl h)
              · by_cases h' : n ≤ t.2
                · exact .inl (.inr ⟨h.1, h'⟩)
                · exact .inr ⟨by omega, by omega⟩
            · rintro ((h | h) | h)
              · exact .inl h
              · exact .inr ⟨h.1, by omega⟩
              · exact .inr ⟨by omega, by omega⟩
          · rcases List.mem_append.1 hx with hx | hx
            · obtain ⟨y', hy', e⟩ := g3 x (List.mem_append_left _ hx)
              exact ⟨y', List.mem_append_left _ hy', e⟩
            · simp at hx; subst hx; exact ⟨y, List.mem_append_left _ hy, hyt⟩
        · rename_i hh
          refine ⟨nrm_snoc.2 ⟨g1, hs, fun x hx => ?_⟩, fun n => ?_, fun x hx => ?_⟩
          · rcases List.mem_append.1 hx with hx | hx
            · have := n3 x hx; omega
            · simp at hx; subst hx; omega
          · rw [in_append, in_append (l := p), g2]
          · rcases List.mem_append.1 hx with hx | hx
            · obtain ⟨y', hy', e⟩ := g3 x hx
              exact ⟨y', List.mem_append_left _ hy', e⟩
            · simp at hx; subst hx; exact ⟨x, by simp, rfl⟩
  exact rev l.length l rfl
/-- a span that may be -/
abbrev SM := { s : S // mayB s = true }
def tm (l : List S) : List SM := l.filterMap fun s => if h : mayB s = true then some ⟨s, h⟩ else none
theorem tm_yes (l : List S) {s : S} (h : mayB s = true) : tm (l ++ [s]) = tm l ++ [⟨s, h⟩] := by simp [tm, List.filterMap_append, h]
theorem tm_no (l : List S) {s : S} (h : mayB s = false) : tm (l ++ [s]) = tm l := by simp [tm, List.filterMap_append, h]
theorem tm_map (l : List S) : (tm l).map (·.1) = l.filter mayB := by
  induction l with
  | nil => rfl
  | cons s r ih =>
    by_cases h : mayB s = true
    · simp only [tm, List.filterMap_cons, h, dif_pos, List.map_cons, List.filter_cons, if_true] at ih ⊢
      rw [ih]
    · simp only [tm, List.filterMap_cons, h, dif_neg, not_false_eq_true, List.filter_cons] at ih ⊢
      simpa using ih
theorem tm_length (l : List S) : (tm l).length ≤ l.length := List.length_filterMap_le _ _
theorem jstep_may {m : List S} {s : S} (hm : ∀ t ∈ m, mayB t = true) (hs : mayB s = true) : ∀ t ∈ jstep m s, mayB t = true := by
  intro x hx
  unfold jstep at hx
  cases hg : m.getLast? with
  | none => rw [hg] at hx; simp at hx; rw [hx]; exact hs
  | some t =>
    rw [hg] at hx
    have ht := mayB_iff.1 (hm t (List.mem_of_getLast? hg))
    have hs' := mayB_iff.1 hs
    simp only at hx
    split at hx
    · rcases List.mem_append.1 hx with hx | hx
      · exact hm x (List.dropLast_subset _ hx)
      · simp at hx; subst hx; exact mayB_iff.2 ⟨ht.1, by simp only; omega, by simp only; omega⟩
    · rcases List.mem_append.1 hx with hx | hx
      · exact hm x hx
      · simp at hx; subst hx; exact hs
theorem joinF_may (l : List SM) : ∀ t ∈ joinF (l.map (·.1)), mayB t = true := by
  have h : ∀ (l : List SM) (m : List S), (∀ t ∈ m, mayB t = true) → ∀ t ∈ (l.map (·.1)).foldl jstep m, mayB t = true := by
    intro l
    induction l with
    | nil => intro m hm; exact hm
    | cons s r ih => intro m hm; exact ih _ (jstep_may hm s.2)
  exact h l [] (by simp)
/-- those that right tells -/
def Told (l ys : List S) : Prop := ∃ d : List S, d.Perm l ∧ Rising d ∧ ys = d.filter mayB
theorem Told.join {l ys : List S} (h : Told l ys) : joinF ys = norm l := by
  obtain ⟨d, hp, hr, rfl⟩ := h
  have hm : ∀ s ∈ d.filter mayB, mayB s = true := fun s hs => (List.mem_filter.1 hs).2
  obtain ⟨h1, h2, _⟩ := joinF_ok hm (hr.filter _)
  refine norm_of h1 fun n => ?_
  rw [h2]
  constructor
  · rintro ⟨s, hs, h3⟩; exact ⟨s, hp.mem_iff.1 (List.mem_filter.1 hs).1, h3⟩
  · rintro ⟨s, hs, h3⟩; exact ⟨s, List.mem_filter.2 ⟨hp.mem_iff.2 hs, h3.1⟩, h3⟩

end Go.Proofs.Ytbeombmblifohaa.Sp
