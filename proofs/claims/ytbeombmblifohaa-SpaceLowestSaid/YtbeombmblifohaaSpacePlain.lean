/- Plain law of layer 12: labels that are owned, and those that are left. -/
import Derived.Test.YtbeombmblifohaaSpansPlain2
namespace Go.Proofs.Ytbeombmblifohaa.Sp
set_option linter.unusedVariables false
set_option linter.unusedSimpArgs false

/-- a block; a space -/
structure Bk where
  sp : S
  owner : Int
  area : Int
deriving DecidableEq
structure Spc where
  a1 : S
  a2 : S
  L : List Bk
def Spc.at (m : Spc) (k : Int) : S := if k = 1 then m.a1 else if k = 2 then m.a2 else (0, 0)
def Spc.lay (m : Spc) (k : Int) (s : S) : Spc := if k = 1 then { m with a1 := s } else { m with a2 := s }
def whole : List S := [(16, 1048575)]
def cutAll (l : List S) (L : List Bk) : List S := L.foldl (fun l b => cut l b.sp) l
def base0 (m : Spc) : List S := if 0 < m.a2.1 then cut (if m.a1.1 = 0 then whole else cut whole m.a1) m.a2 else (if m.a1.1 = 0 then whole else cut whole m.a1)
def leftR (m : Spc) (k : Int) : List S := if k < 0 ∨ 2 < k ∨ (0 < k ∧ (m.at k).1 = 0) then [] else cutAll (if k = 0 then base0 m else [m.at k]) m.L
def owns (s : S) : Bool := decide (16 ≤ s.1) && decide (s.1 ≤ s.2) && decide (s.2 ≤ 1048575)
theorem owns_iff {s : S} : owns s = true ↔ 16 ≤ s.1 ∧ s.1 ≤ s.2 ∧ s.2 ≤ 1048575 := by simp [owns, and_assoc]
theorem owns_may {s : S} (h : owns s = true) : mayB s = true := by rw [owns_iff] at h; rw [mayB_iff]; omega

/-- what a space keeps -/
structure WF (m : Spc) : Prop where
  w1 : m.a1 = (0, 0) ∨ owns m.a1 = true
  w2 : m.a2 = (0, 0) ∨ owns m.a2 = true
  dis : m.a1.2 < m.a2.1 ∨ m.a2.2 < m.a1.1 ∨ m.a1 = (0, 0) ∨ m.a2 = (0, 0)
  ok : ∀ b ∈ m.L, owns b.sp = true ∧ 1 ≤ b.owner ∧ 0 ≤ b.area ∧ b.area ≤ 2
  inn : ∀ b ∈ m.L, 0 < b.area → (m.at b.area).1 ≠ 0 ∧ (m.at b.area).1 ≤ b.sp.1 ∧ b.sp.2 ≤ (m.at b.area).2
  out : ∀ b ∈ m.L, b.area = 0 → (b.sp.2 < m.a1.1 ∨ m.a1.2 < b.sp.1) ∧ (b.sp.2 < m.a2.1 ∨ m.a2.2 < b.sp.1)
  srt : m.L.Pairwise fun a b => a.sp.2 < b.sp.1

/-- is a label owned? does it lie where an area is? -/
def ownB (m : Spc) (n : Int) : Bool := m.L.any fun b => decide (b.sp.1 ≤ n) && decide (n ≤ b.sp.2)
def reg (m : Spc) (k n : Int) : Bool := if k = 0 then decide (16 ≤ n ∧ n ≤ 1048575 ∧ ¬ (m.a1.1 ≤ n ∧ n ≤ m.a1.2 ∧ m.a1.1 ≠ 0) ∧ ¬ (m.a2.1 ≤ n ∧ n ≤ m.a2.2 ∧ m.a2.1 ≠ 0))
  else decide ((m.at k).1 ≠ 0 ∧ (m.at k).1 ≤ n ∧ n ≤ (m.at k).2)
theorem in_cutAll : ∀ (L : List Bk) (l : List S) (n : Int), In (cutAll l L) n ↔ In l n ∧ ¬ ∃ b ∈ L, mayB b.sp = true ∧ b.sp.1 ≤ n ∧ n ≤ b.sp.2
  | [], l, n => by simp [cutAll]
  | b :: L, l, n => by
    have ih := in_cutAll L (cut l b.sp) n
    unfold cutAll at ih ⊢
    rw [List.foldl_cons, ih, in_cut]
    constructor
    · rintro ⟨⟨h1, h2⟩, h3⟩
      refine ⟨h1, ?_⟩
      rintro ⟨c, hc, h4⟩
      rcases List.mem_cons.1 hc with rfl | hc
      · exact h2 h4
      · exact h3 ⟨c, hc, h4⟩
    · rintro ⟨h1, h2⟩
      exact ⟨⟨h1, fun h => h2 ⟨b, by simp, h⟩⟩, fun ⟨c, hc, h⟩ => h2 ⟨c, by simp [hc], h⟩⟩
theorem cutAll_nrm : ∀ (L : List Bk) {l : List S}, Nrm l → Nrm (cutAll l L)
  | [], l, h => h
  | b :: L, l, h => cutAll_nrm L (cut_nrm l b.sp)
theorem own_iff {m : Spc} {n : Int} : ownB m n = true ↔ ∃ b ∈ m.L, b.sp.1 ≤ n ∧ n ≤ b.sp.2 := by simp [ownB]
theorem one_nrm {s : S} (h : mayB s = true) : Nrm [s] := ⟨h, by simp, trivial⟩
theorem in_one' (s : S) (n : Int) : In [s] n ↔ (mayB s = true ∧ s.1 ≤ n ∧ n ≤ s.2) := by simp [In]
theorem WF.at_ {m : Spc} (h : WF m) (k : Int) : m.at k = (0, 0) ∨ owns (m.at k) = true := by
  unfold Spc.at
  split
  · exact h.w1
  · split
    · exact h.w2
    · exact Or.inl rfl
theorem WF.at_pos {m : Spc} (h : WF m) (k : Int) : (m.at k).1 = 0 ↔ m.at k = (0, 0) := by
  constructor
  · intro h0
    rcases h.at_ k with h1 | h1
    · exact h1
    · rw [owns_iff] at h1; omega
  · intro h0; rw [h0]
theorem base0_ok {m : Spc} (h : WF m) : Nrm (base0 m) ∧ ∀ n, In (base0 m) n ↔ reg m 0 n = true := by
  have hw : mayB ((16, 1048575) : S) = true := by decide
  have h1 : Nrm (if m.a1.1 = 0 then whole else cut whole m.a1) ∧ ∀ n, In (if m.a1.1 = 0 then whole else cut whole m.a1) n ↔ (16 ≤ n ∧ n ≤ 1048575 ∧ ¬ (m.a1.1 ≤ n ∧ n ≤ m.a1.2 ∧ m.a1.1 ≠ 0)) := by
    split
    · rename_i h0
      refine ⟨one_nrm hw, fun n => ?_⟩
      unfold whole
      rw [in_one']
      simp [hw, h0]
    · rename_i h0
      have hm : mayB m.a1 = true := by
        rcases h.w1 with e | e
        · rw [e] at h0; exact absurd rfl h0
        · exact owns_may e
      refine ⟨cut_nrm _ _, fun n => ?_⟩
      rw [in_cut]
      unfold whole
      rw [in_one']
      simp only [hw, hm, true_and]
      constructor
      · rintro ⟨⟨a, b⟩, c⟩; exact ⟨a, b, fun d => c ⟨d.1, d.2.1⟩⟩
      · rintro ⟨a, b, c⟩; exact ⟨⟨a, b⟩, fun d => c ⟨d.1, d.2, h0⟩⟩
  obtain ⟨n1, i1⟩ := h1
  unfold base0
  split
  · rename_i h0
    have hm : mayB m.a2 = true := by
      rcases h.w2 with e | e
      · rw [e] at h0; exact absurd h0 (by decide)
      · exact owns_may e
    refine ⟨cut_nrm _ _, fun n => ?_⟩
    rw [in_cut, i1]
    simp only [reg, if_true, decide_eq_true_eq, hm, true_and]
    constructor
    · rintro ⟨⟨a, b, c⟩, d⟩; exact ⟨a, b, c, fun e => d ⟨e.1, e.2.1⟩⟩
    · rintro ⟨a, b, c, d⟩; exact ⟨⟨a, b, c⟩, fun e => d ⟨e.1, e.2, by omega⟩⟩
  · rename_i h0
    refine ⟨n1, fun n => ?_⟩
    rw [i1]
    have h00 : m.a2.1 = 0 := by
      rcases h.w2 with e | e
      · rw [e]
      · rw [owns_iff] at e; omega
    simp only [reg, if_true, decide_eq_true_eq]
    constructor
    · rintro ⟨a, b, c⟩; exact ⟨a, b, c, fun e => e.2.2 h00⟩
    · rintro ⟨a, b, c, _⟩; exact ⟨a, b, c⟩
/-- what is left, as labels -/
theorem left_ok {m : Spc} (h : WF m) (k : Int) : Nrm (leftR m k) ∧ (0 ≤ k → k ≤ 2 → ∀ n, inB (leftR m k) n = (reg m k n && !ownB m n)) := by
  unfold leftR
  by_cases hk : k < 0 ∨ 2 < k ∨ (0 < k ∧ (m.at k).1 = 0)
  · rw [if_pos hk]
    refine ⟨trivial, fun h0 h2 n => ?_⟩
    have : reg m k n = false := by
      unfold reg
      rw [if_neg (by omega)]
      simp only [decide_eq_false_iff_not]
      omega
    rw [this, Bool.false_and]
    simp [inB]
  · rw [if_neg hk]
    have hb : Nrm (if k = 0 then base0 m else [m.at k]) ∧ ∀ n, In (if k = 0 then base0 m else [m.at k]) n ↔ reg m k n = true := by
      by_cases h0 : k = 0
      · subst h0
        rw [if_pos rfl]
        exact base0_ok h
      · rw [if_neg h0]
        have hm : mayB (m.at k) = true := by
          rcases h.at_ k with e | e
          · exact absurd (Or.inr (Or.inr ⟨by omega, by rw [e]⟩)) hk
          · exact owns_may e
        refine ⟨one_nrm hm, fun n => ?_⟩
        rw [in_one']
        unfold reg
        rw [if_neg h0]
        simp only [hm, true_and, decide_eq_true_eq]
        constructor
        · intro hh; exact ⟨by omega, hh⟩
        · intro hh; exact hh.2
    refine ⟨cutAll_nrm _ hb.1, fun h0 h2 n => ?_⟩
    apply inB_of
    rw [in_cutAll, hb.2, Bool.and_eq_true, Bool.not_eq_true', ← Bool.not_eq_true, own_iff]
    refine and_congr_right fun _ => not_congr ⟨fun ⟨b, hb, h1⟩ => ⟨b, hb, (h.ok b hb).elim fun ho _ => ⟨owns_may ho, h1⟩⟩, fun ⟨b, hb, h1⟩ => ⟨b, hb, h1.2⟩⟩
/-- what has just the labels that are left is what is left -/
theorem left_is {m : Spc} (h : WF m) {k : Int} (h0 : 0 ≤ k) (h2 : k ≤ 2) {l : List S} (hn : Nrm l) (hi : ∀ n, inB l n = (reg m k n && !ownB m n)) : l = leftR m k :=
  Nrm.uniq hn (left_ok h k).1 fun n => by rw [← inB_iff, ← inB_iff, hi, (left_ok h k).2 h0 h2]
/-- the labels of a span that is left -/
theorem has_left {m : Spc} (h : WF m) {k : Int} (h0 : 0 ≤ k) (h2 : k ≤ 2) {s : S} (hs : has (leftR m k) s = true) : mayB s = true ∧ ∀ n, s.1 ≤ n → n ≤ s.2 → reg m k n = true ∧ ownB m n = false := by
  obtain ⟨h3, h4⟩ := has_in hs
  refine ⟨h3, fun n h5 h6 => ?_⟩
  have h7 := inB_iff.2 (h4 n h5 h6)
  rw [(left_ok h k).2 h0 h2, Bool.and_eq_true, Bool.not_eq_true'] at h7
  exact h7
theorem reg_bd {m : Spc} (h : WF m) {k n : Int} (hr : reg m k n = true) : 16 ≤ n ∧ n ≤ 1048575 := by
  unfold reg at hr
  split at hr
  · simp only [decide_eq_true_eq] at hr; exact ⟨hr.1, hr.2.1⟩
  · simp only [decide_eq_true_eq] at hr
    rcases h.at_ k with e | e
    · rw [e] at hr; exact absurd rfl hr.1
    · rw [owns_iff] at e; omega
theorem has_owns {m : Spc} (h : WF m) {k : Int} (h0 : 0 ≤ k) (h2 : k ≤ 2) {s : S} (hs : has (leftR m k) s = true) : owns s = true := by
  obtain ⟨h3, h4⟩ := has_left h h0 h2 hs
  rw [mayB_iff] at h3
  have a := reg_bd h (h4 s.1 (Int.le_refl _) h3.2.1).1
  rw [owns_iff]; omega
theorem reg_zero {m : Spc} {n : Int} : reg m 0 n = true ↔ 16 ≤ n ∧ n ≤ 1048575 ∧ ¬ (m.a1.1 ≤ n ∧ n ≤ m.a1.2 ∧ m.a1.1 ≠ 0) ∧ ¬ (m.a2.1 ≤ n ∧ n ≤ m.a2.2 ∧ m.a2.1 ≠ 0) := by simp only [reg, if_true, decide_eq_true_eq]
theorem reg_one {m : Spc} {n : Int} : reg m 1 n = true ↔ m.a1.1 ≠ 0 ∧ m.a1.1 ≤ n ∧ n ≤ m.a1.2 := by simp [reg, Spc.at]
theorem reg_two {m : Spc} {n : Int} : reg m 2 n = true ↔ m.a2.1 ≠ 0 ∧ m.a2.1 ≤ n ∧ n ≤ m.a2.2 := by simp [reg, Spc.at]
theorem block_own {m : Spc} {b : Bk} (hb : b ∈ m.L) {n : Int} (h1 : b.sp.1 ≤ n) (h2 : n ≤ b.sp.2) : ownB m n = true := own_iff.2 ⟨b, hb, h1, h2⟩
theorem inB_one' {s : S} (h : mayB s = true) (n : Int) : inB [s] n = (decide (s.1 ≤ n) && decide (n ≤ s.2)) := inB_of (by rw [in_one]; simp [h])

/-- an area is laid out -/
theorem carve_ok {m : Spc} (h : WF m) {k : Int} (hk : k = 1 ∨ k = 2) {s : S} (hz : (m.at k).1 = 0) (hs : has (leftR m 0) s = true) :
    WF (m.lay k s) ∧ leftR (m.lay k s) 0 = cut (leftR m 0) s ∧ leftR (m.lay k s) k = add (leftR m k) s ∧ leftR (m.lay k s) (3 - k) = leftR m (3 - k) := by
  obtain ⟨hm, hl⟩ := has_left h (by omega) (by omega) hs
  have ho := has_owns h (by omega) (by omega) hs
  have ho' := owns_iff.1 ho
  have hzz := (h.at_pos k).1 hz
  have hblk : ∀ b ∈ m.L, b.sp.2 < s.1 ∨ s.2 < b.sp.1 := by
    intro b hb
    have hbo := owns_iff.1 (h.ok b hb).1
    by_cases h1 : b.sp.2 < s.1
    · exact Or.inl h1
    · by_cases h2 : s.2 < b.sp.1
      · exact Or.inr h2
      · have h3 := (hl (max s.1 b.sp.1) (by omega) (by omega)).2
        rw [block_own hb (by omega) (by omega)] at h3
        cases h3
  have hdis : ∀ t : S, (t = m.a1 ∨ t = m.a2) → owns t = true → t.2 < s.1 ∨ s.2 < t.1 := by
    intro t ht hto
    have hto' := owns_iff.1 hto
    by_cases h1 : t.2 < s.1
    · exact Or.inl h1
    · by_cases h2 : s.2 < t.1
      · exact Or.inr h2
      · have h3 := reg_zero.1 (hl (max s.1 t.1) (by omega) (by omega)).1
        rcases ht with rfl | rfl <;> omega
  have hown : ∀ n, ownB (m.lay k s) n = ownB m n := by
    intro n; unfold Spc.lay; split <;> rfl
  have hwf : WF (m.lay k s) := by
    rcases hk with rfl | rfl
    · have e : m.lay 1 s = { m with a1 := s } := rfl
      have hz1 : m.a1 = (0, 0) := hzz
      rw [e]
      refine ⟨Or.inr ho, h.w2, ?_, h.ok, ?_, ?_, h.srt⟩
      · rcases h.w2 with e2 | e2
        · exact Or.inr (Or.inr (Or.inr e2))
        · rcases hdis m.a2 (Or.inr rfl) e2 with h1 | h1
          · exact Or.inr (Or.inl h1)
          · exact Or.inl h1
      · intro b hb h0
        have h1 := h.inn b hb h0
        by_cases hb1 : b.area = 1
        · rw [hb1] at h1; exact absurd hz h1.1
        · have : (({ m with a1 := s } : Spc).at b.area) = m.at b.area := by simp [Spc.at, hb1]
          rw [this]; exact h1
      · intro b hb h0
        refine ⟨?_, (h.out b hb h0).2⟩
        rcases hblk b hb with h1 | h1
        · exact Or.inl h1
        · exact Or.inr h1
    · have e : m.lay 2 s = { m with a2 := s } := rfl
      have hz1 : m.a2 = (0, 0) := hzz
      rw [e]
      refine ⟨h.w1, Or.inr ho, ?_, h.ok, ?_, ?_, h.srt⟩
      · rcases h.w1 with e2 | e2
        · exact Or.inr (Or.inr (Or.inl e2))
        · rcases hdis m.a1 (Or.inl rfl) e2 with h1 | h1
          · exact Or.inl h1
          · exact Or.inr (Or.inl h1)
      · intro b hb h0
        have h1 := h.inn b hb h0
        by_cases hb1 : b.area = 2
        · rw [hb1] at h1; exact absurd hz h1.1
        · have : (({ m with a2 := s } : Spc).at b.area) = m.at b.area := by simp [Spc.at, hb1]
          rw [this]; exact h1
      · intro b hb h0
        refine ⟨(h.out b hb h0).1, ?_⟩
        rcases hblk b hb with h1 | h1
        · exact Or.inl h1
        · exact Or.inr h1
  refine ⟨hwf, ?_, ?_, ?_⟩
  · symm
    refine left_is hwf (by omega) (by omega) (cut_nrm _ _) fun n => ?_
    rw [inB_cut, inB_one' hm, (left_ok h 0).2 (by omega) (by omega), hown]
    have : reg (m.lay k s) 0 n = (reg m 0 n && !(decide (s.1 ≤ n) && decide (n ≤ s.2))) := by
      rw [Bool.eq_iff_iff]
      simp only [Bool.and_eq_true, Bool.not_eq_true', ← Bool.not_eq_true, decide_eq_true_eq, reg_zero]
      rcases hk with rfl | rfl
      · have hz1 : m.a1 = (0, 0) := hzz
        simp only [Spc.lay, if_true, hz1]
        omega
      · have hz1 : m.a2 = (0, 0) := hzz
        simp only [Spc.lay, hz1]
        rw [if_neg (by decide)]
        simp only
        omega
    rw [this]
    cases reg m 0 n <;> cases ownB m n <;> simp
  · symm
    refine left_is hwf (by omega) (by omega) (add_nrm _ _) fun n => ?_
    rw [inB_add, inB_one' hm, (left_ok h k).2 (by omega) (by omega), hown]
    have h1 : reg m k n = false := by
      rw [← Bool.not_eq_true]
      intro hr
      unfold reg at hr
      rw [if_neg (by omega)] at hr
      simp only [decide_eq_true_eq] at hr
      exact hr.1 hz
    have h2 : reg (m.lay k s) k n = (decide (s.1 ≤ n) && decide (n ≤ s.2)) := by
      rw [Bool.eq_iff_iff]
      rcases hk with rfl | rfl
      · rw [reg_one]; simp [Spc.lay]; omega
      · rw [reg_two]; simp [Spc.lay]; omega
    rw [h1, h2]
    by_cases hn : s.1 ≤ n ∧ n ≤ s.2
    · rw [(hl n hn.1 hn.2).2]; simp
    · have : (decide (s.1 ≤ n) && decide (n ≤ s.2)) = false := by simp; omega
      rw [this]; simp
  · symm
    refine left_is hwf (by omega) (by omega) (left_ok h _).1 fun n => ?_
    rw [(left_ok h _).2 (by omega) (by omega), hown]
    congr 1
    rcases hk with rfl | rfl <;> simp [reg, Spc.at, Spc.lay]
/-- an area is given back -/
theorem close_ok {m : Spc} (h : WF m) {k : Int} (hk : k = 1 ∨ k = 2) (hz : (m.at k).1 ≠ 0) (hb : ∀ b ∈ m.L, b.area ≠ k) :
    WF (m.lay k (0, 0)) ∧ leftR (m.lay k (0, 0)) 0 = add (leftR m 0) (m.at k) ∧ leftR (m.lay k (0, 0)) k = cut (leftR m k) (m.at k) ∧ leftR (m.lay k (0, 0)) (3 - k) = leftR m (3 - k) := by
  have ho : owns (m.at k) = true := by
    rcases h.at_ k with e | e
    · rw [e] at hz; exact absurd rfl hz
    · exact e
  have ho' := owns_iff.1 ho
  have hm := owns_may ho
  have hown : ∀ n, ownB (m.lay k (0, 0)) n = ownB m n := by
    intro n; unfold Spc.lay; split <;> rfl
  have hno : ∀ n, (m.at k).1 ≤ n → n ≤ (m.at k).2 → ownB m n = false := by
    intro n h1 h2
    rw [← Bool.not_eq_true, own_iff]
    rintro ⟨b, hbm, h3, h4⟩
    have hbo := owns_iff.1 (h.ok b hbm).1
    have har := (h.ok b hbm).2.2
    by_cases h0 : b.area = 0
    · have h5 := h.out b hbm h0
      rcases hk with rfl | rfl
      · have e : m.at 1 = m.a1 := rfl
        rw [e] at h1 h2; omega
      · have e : m.at 2 = m.a2 := rfl
        rw [e] at h1 h2; omega
    · have h5 := h.inn b hbm (by omega)
      have h6 := hb b hbm
      rcases hk with rfl | rfl
      · have e : m.at 1 = m.a1 := rfl
        have e2 : b.area = 2 := by omega
        rw [e2] at h5
        have e3 : m.at 2 = m.a2 := rfl
        rw [e3] at h5
        rw [e] at h1 h2 hz
        rcases h.dis with d | d | d | d
        · omega
        · omega
        · rw [d] at hz; exact hz rfl
        · rw [d] at h5; exact h5.1 rfl
      · have e : m.at 2 = m.a2 := rfl
        have e2 : b.area = 1 := by omega
        rw [e2] at h5
        have e3 : m.at 1 = m.a1 := rfl
        rw [e3] at h5
        rw [e] at h1 h2 hz
        rcases h.dis with d | d | d | d
        · omega
        · omega
        · rw [d] at h5; exact h5.1 rfl
        · rw [d] at hz; exact hz rfl
  have hwf : WF (m.lay k (0, 0)) := by
    rcases hk with rfl | rfl
    · have e : m.lay 1 (0, 0) = { m with a1 := (0, 0) } := rfl
      rw [e]
      refine ⟨Or.inl rfl, h.w2, Or.inr (Or.inr (Or.inl rfl)), h.ok, ?_, ?_, h.srt⟩
      · intro b hbm h0
        have h1 := h.inn b hbm h0
        have : (({ m with a1 := (0, 0) } : Spc).at b.area) = m.at b.area := by simp [Spc.at, hb b hbm]
        rw [this]; exact h1
      · intro b hbm h0
        have hbo := owns_iff.1 (h.ok b hbm).1
        exact ⟨Or.inr (by show (0 : Int) < b.sp.1; omega), (h.out b hbm h0).2⟩
    · have e : m.lay 2 (0, 0) = { m with a2 := (0, 0) } := rfl
      rw [e]
      refine ⟨h.w1, Or.inl rfl, Or.inr (Or.inr (Or.inr rfl)), h.ok, ?_, ?_, h.srt⟩
      · intro b hbm h0
        have h1 := h.inn b hbm h0
        have : (({ m with a2 := (0, 0) } : Spc).at b.area) = m.at b.area := by simp [Spc.at, hb b hbm]
        rw [this]; exact h1
      · intro b hbm h0
        have hbo := owns_iff.1 (h.ok b hbm).1
        exact ⟨(h.out b hbm h0).1, Or.inr (by show (0 : Int) < b.sp.1; omega)⟩
  refine ⟨hwf, ?_, ?_, ?_⟩
  · symm
    refine left_is hwf (by omega) (by omega) (add_nrm _ _) fun n => ?_
    rw [inB_add, inB_one' hm, (left_ok h 0).2 (by omega) (by omega), hown]
    have h2 : reg (m.lay k (0, 0)) 0 n = (reg m 0 n || (decide ((m.at k).1 ≤ n) && decide (n ≤ (m.at k).2))) := by
      rw [Bool.eq_iff_iff]
      simp only [Bool.or_eq_true, Bool.and_eq_true, decide_eq_true_eq, reg_zero]
      rcases hk with rfl | rfl
      · have e : m.at 1 = m.a1 := rfl
        rw [e] at ho' hz ⊢
        simp only [Spc.lay, if_true]
        rcases h.dis with d | d | d | d
        · omega
        · omega
        · rw [d] at hz; exact absurd rfl hz
        · rw [d]; simp only; omega
      · have e : m.at 2 = m.a2 := rfl
        rw [e] at ho' hz ⊢
        simp only [Spc.lay]
        rw [if_neg (by decide)]
        simp only
        rcases h.dis with d | d | d | d
        · omega
        · omega
        · rw [d]; simp only; omega
        · rw [d] at hz; exact absurd rfl hz
    rw [h2]
    by_cases hn : (m.at k).1 ≤ n ∧ n ≤ (m.at k).2
    · rw [hno n hn.1 hn.2]; simp
    · have : (decide ((m.at k).1 ≤ n) && decide (n ≤ (m.at k).2)) = false := by simp; omega
      rw [this]; simp
  · symm
    refine left_is hwf (by omega) (by omega) (cut_nrm _ _) fun n => ?_
    rw [inB_cut, inB_one' hm, (left_ok h k).2 (by omega) (by omega), hown]
    have h1 : reg (m.lay k (0, 0)) k n = false := by
      rw [← Bool.not_eq_true]
      rcases hk with rfl | rfl
      · rw [reg_one]; simp [Spc.lay]
      · rw [reg_two]; simp [Spc.lay]
    have h2 : reg m k n = (decide ((m.at k).1 ≤ n) && decide (n ≤ (m.at k).2)) := by
      rw [Bool.eq_iff_iff]
      unfold reg
      rw [if_neg (by omega)]
      simp only [Bool.and_eq_true, decide_eq_true_eq]
      omega
    rw [h1, h2]
    cases (decide ((m.at k).1 ≤ n) && decide (n ≤ (m.at k).2)) <;> simp
  · symm
    refine left_is hwf (by omega) (by omega) (left_ok h _).1 fun n => ?_
    rw [(left_ok h _).2 (by omega) (by omega), hown]
    congr 1
    rcases hk with rfl | rfl <;> simp [reg, Spc.at, Spc.lay]

/-- a block is laid in -/
def insB (b : Bk) (L : List Bk) : List Bk := L.takeWhile (fun c => decide (c.sp.1 < b.sp.1)) ++ b :: L.dropWhile (fun c => decide (c.sp.1 < b.sp.1))
theorem mem_insB {b c : Bk} {L : List Bk} : c ∈ insB b L ↔ c = b ∨ c ∈ L := by
  unfold insB
  rw [List.mem_append, List.mem_cons]
  conv => rhs; rw [← List.takeWhile_append_dropWhile (p := fun c => decide (c.sp.1 < b.sp.1)) (l := L), List.mem_append]
  constructor
  · rintro (h | h | h)
    · exact Or.inr (Or.inl h)
    · exact Or.inl h
    · exact Or.inr (Or.inr h)
  · rintro (h | h | h)
    · exact Or.inr (Or.inl h)
    · exact Or.inl h
    · exact Or.inr (Or.inr h)
theorem insB_srt {b : Bk} : ∀ {L : List Bk}, L.Pairwise (fun a b => a.sp.2 < b.sp.1) → (∀ c ∈ L, c.sp.1 ≤ c.sp.2 ∧ (c.sp.2 < b.sp.1 ∨ b.sp.2 < c.sp.1)) → b.sp.1 ≤ b.sp.2 → (insB b L).Pairwise (fun a b => a.sp.2 < b.sp.1)
  | [], _, _, _ => by simp [insB]
  | c :: r, hp, hd, hb => by
    rw [List.pairwise_cons] at hp
    by_cases h : c.sp.1 < b.sp.1
    · have e : insB b (c :: r) = c :: insB b r := by simp [insB, h]
      rw [e, List.pairwise_cons]
      refine ⟨?_, insB_srt hp.2 (fun x hx => hd x (by simp [hx])) hb⟩
      intro x hx
      rcases mem_insB.1 hx with rfl | hx
      · have := hd c (by simp); omega
      · exact hp.1 x hx
    · have e : insB b (c :: r) = b :: c :: r := by simp [insB, h]
      rw [e, List.pairwise_cons]
      have hc := hd c (by simp)
      refine ⟨?_, by rw [List.pairwise_cons]; exact hp⟩
      intro x hx
      rcases List.mem_cons.1 hx with rfl | hx
      · omega
      · have := hp.1 x hx; omega
theorem put_ok {m : Spc} (h : WF m) {k : Int} (h0 : 0 ≤ k) (h2 : k ≤ 2) {s : S} {o : Int} (ho : 1 ≤ o) (hs : has (leftR m k) s = true) :
    WF { m with L := insB ⟨s, o, k⟩ m.L } ∧ leftR { m with L := insB ⟨s, o, k⟩ m.L } k = cut (leftR m k) s ∧ ∀ j, 0 ≤ j → j ≤ 2 → j ≠ k → leftR { m with L := insB ⟨s, o, k⟩ m.L } j = leftR m j := by
  obtain ⟨hm, hl⟩ := has_left h h0 h2 hs
  have hos := has_owns h h0 h2 hs
  have hos' := owns_iff.1 hos
  have hblk : ∀ b ∈ m.L, b.sp.1 ≤ b.sp.2 ∧ (b.sp.2 < s.1 ∨ s.2 < b.sp.1) := by
    intro b hb
    have hbo := owns_iff.1 (h.ok b hb).1
    refine ⟨hbo.2.1, ?_⟩
    by_cases h1 : b.sp.2 < s.1
    · exact Or.inl h1
    · by_cases h2 : s.2 < b.sp.1
      · exact Or.inr h2
      · have h3 := (hl (max s.1 b.sp.1) (by omega) (by omega)).2
        rw [block_own hb (by omega) (by omega)] at h3
        cases h3
  have e1 := (hl s.1 (Int.le_refl _) hos'.2.1).1
  have e2 := (hl s.2 hos'.2.1 (Int.le_refl _)).1
  have hown : ∀ n, ownB { m with L := insB ⟨s, o, k⟩ m.L } n = (ownB m n || (decide (s.1 ≤ n) && decide (n ≤ s.2))) := by
    intro n
    rw [Bool.eq_iff_iff, Bool.or_eq_true, own_iff, own_iff]
    simp only [Bool.and_eq_true, decide_eq_true_eq]
    constructor
    · rintro ⟨b, hb, h3⟩
      rcases mem_insB.1 hb with rfl | hb
      · exact Or.inr h3
      · exact Or.inl ⟨b, hb, h3⟩
    · rintro (⟨b, hb, h3⟩ | h3)
      · exact ⟨b, mem_insB.2 (Or.inr hb), h3⟩
      · exact ⟨_, mem_insB.2 (Or.inl rfl), h3⟩
  have hwf : WF { m with L := insB ⟨s, o, k⟩ m.L } := by
    refine ⟨h.w1, h.w2, h.dis, ?_, ?_, ?_, insB_srt h.srt hblk hos'.2.1⟩
    · intro b hb
      rcases mem_insB.1 hb with rfl | hb
      · exact ⟨hos, ho, h0, h2⟩
      · exact h.ok b hb
    · intro b hb hp
      rcases mem_insB.1 hb with rfl | hb
      · have hk : k ≠ 0 := by simp only at hp; omega
        unfold reg at e1 e2
        rw [if_neg hk] at e1 e2
        simp only [decide_eq_true_eq] at e1 e2
        exact ⟨e1.1, e1.2.1, e2.2.2⟩
      · exact h.inn b hb hp
    · intro b hb hp
      rcases mem_insB.1 hb with rfl | hb
      · have hk : k = 0 := hp
        subst hk
        have key : ∀ t : S, (t = m.a1 ∨ t = m.a2) → (t = (0, 0) ∨ owns t = true) → s.2 < t.1 ∨ t.2 < s.1 := by
          intro t ht hto
          rcases hto with e | e
          · rw [e]; exact Or.inr (by show (0 : Int) < s.1; omega)
          · have hto' := owns_iff.1 e
            by_cases h1 : t.2 < s.1
            · exact Or.inr h1
            · by_cases h2 : s.2 < t.1
              · exact Or.inl h2
              · have h3 := reg_zero.1 (hl (max s.1 t.1) (by omega) (by omega)).1
                rcases ht with rfl | rfl <;> omega
        exact ⟨key _ (Or.inl rfl) h.w1, key _ (Or.inr rfl) h.w2⟩
      · exact h.out b hb hp
  have hreg : ∀ j n, reg { m with L := insB ⟨s, o, k⟩ m.L } j n = reg m j n := fun j n => rfl
  refine ⟨hwf, ?_, fun j hj0 hj2 hjk => ?_⟩
  · symm
    refine left_is hwf h0 h2 (cut_nrm _ _) fun n => ?_
    rw [inB_cut, inB_one' hm, (left_ok h k).2 h0 h2, hown, hreg]
    cases reg m k n <;> cases ownB m n <;> simp
  · symm
    refine left_is hwf hj0 hj2 (left_ok h _).1 fun n => ?_
    rw [(left_ok h _).2 hj0 hj2, hown, hreg]
    by_cases hn : s.1 ≤ n ∧ n ≤ s.2
    · obtain ⟨r1, r2⟩ := hl n hn.1 hn.2
      have : reg m j n = false := by
        rw [← Bool.not_eq_true]
        intro hr
        have hj : j = 0 ∨ j = 1 ∨ j = 2 := by omega
        have hk : k = 0 ∨ k = 1 ∨ k = 2 := by omega
        rcases h.dis with d | d | d | d <;>
        rcases hj with rfl | rfl | rfl <;> rcases hk with rfl | rfl | rfl <;> simp only [reg_zero, reg_one, reg_two] at hr r1 <;> first | omega | (rw [d] at hr; exact absurd rfl hr.1) | (rw [d] at r1; exact absurd rfl r1.1)
      rw [this]; simp
    · have : (decide (s.1 ≤ n) && decide (n ≤ s.2)) = false := by simp; omega
      rw [this]; simp
/-- a block is taken out -/
theorem free_ok {m : Spc} (h : WF m) {i : Nat} {b : Bk} (hb : m.L[i]? = some b) :
    WF { m with L := m.L.eraseIdx i } ∧ leftR { m with L := m.L.eraseIdx i } b.area = add (leftR m b.area) b.sp ∧ ∀ j, 0 ≤ j → j ≤ 2 → j ≠ b.area → leftR { m with L := m.L.eraseIdx i } j = leftR m j := by
  have hbm := List.mem_of_getElem? hb
  obtain ⟨hos, ho1, ha0, ha2⟩ := h.ok b hbm
  have hos' := owns_iff.1 hos
  have hm := owns_may hos
  have hsub : ∀ c, c ∈ m.L.eraseIdx i → c ∈ m.L := fun c hc => List.mem_of_mem_eraseIdx hc
  obtain ⟨hi, hbe⟩ := List.getElem?_eq_some_iff.1 hb
  have hsplit : m.L = m.L.take i ++ b :: m.L.drop (i + 1) := by
    rw [← hbe, ← List.drop_eq_getElem_cons hi, List.take_append_drop]
  have her : m.L.eraseIdx i = m.L.take i ++ m.L.drop (i + 1) := List.eraseIdx_eq_take_drop_succ m.L i
  have hsrt := h.srt
  rw [hsplit, List.pairwise_append] at hsrt
  obtain ⟨s1, s2, s3⟩ := hsrt
  rw [List.pairwise_cons] at s2
  have hapart : ∀ c ∈ m.L.eraseIdx i, c.sp.2 < b.sp.1 ∨ b.sp.2 < c.sp.1 := by
    intro c hc
    rw [her] at hc
    rcases List.mem_append.1 hc with hc | hc
    · exact Or.inl (s3 c hc b (by simp))
    · exact Or.inr (s2.1 c hc)
  have hown : ∀ n, ownB m n = (ownB { m with L := m.L.eraseIdx i } n || (decide (b.sp.1 ≤ n) && decide (n ≤ b.sp.2))) := by
    intro n
    rw [Bool.eq_iff_iff, Bool.or_eq_true, own_iff, own_iff]
    simp only [Bool.and_eq_true, decide_eq_true_eq]
    constructor
    · rintro ⟨c, hc, h3⟩
      rw [hsplit] at hc
      rcases List.mem_append.1 hc with hc | hc
      · exact Or.inl ⟨c, by rw [her]; exact List.mem_append_left _ hc, h3⟩
      · rcases List.mem_cons.1 hc with rfl | hc
        · exact Or.inr h3
        · exact Or.inl ⟨c, by rw [her]; exact List.mem_append_right _ hc, h3⟩
    · rintro (⟨c, hc, h3⟩ | h3)
      · exact ⟨c, hsub c hc, h3⟩
      · exact ⟨b, hbm, h3⟩
  have hfree : ∀ n, b.sp.1 ≤ n → n ≤ b.sp.2 → ownB { m with L := m.L.eraseIdx i } n = false := by
    intro n h1 h2
    rw [← Bool.not_eq_true, own_iff]
    rintro ⟨c, hc, h3, h4⟩
    have := hapart c hc
    omega
  have hwf : WF { m with L := m.L.eraseIdx i } := by
    refine ⟨h.w1, h.w2, h.dis, fun c hc => h.ok c (hsub c hc), fun c hc => h.inn c (hsub c hc), fun c hc => h.out c (hsub c hc), ?_⟩
    exact h.srt.sublist (List.eraseIdx_sublist m.L i)
  have hreg : ∀ j n, reg { m with L := m.L.eraseIdx i } j n = reg m j n := fun j n => rfl
  have hin : ∀ n, b.sp.1 ≤ n → n ≤ b.sp.2 → reg m b.area n = true := by
    intro n h1 h2
    by_cases h0 : b.area = 0
    · rw [h0, reg_zero]
      have := h.out b hbm h0
      omega
    · have := h.inn b hbm (by omega)
      unfold reg
      rw [if_neg h0]
      simp only [decide_eq_true_eq]
      omega
  refine ⟨hwf, ?_, fun j hj0 hj2 hjk => ?_⟩
  · symm
    refine left_is hwf ha0 ha2 (add_nrm _ _) fun n => ?_
    rw [inB_add, inB_one' hm, (left_ok h _).2 ha0 ha2, hown, hreg]
    by_cases hn : b.sp.1 ≤ n ∧ n ≤ b.sp.2
    · rw [hfree n hn.1 hn.2, hin n hn.1 hn.2]; simp [hn.1, hn.2]
    · have : (decide (b.sp.1 ≤ n) && decide (n ≤ b.sp.2)) = false := by simp; omega
      rw [this]; simp
  · symm
    refine left_is hwf hj0 hj2 (left_ok h _).1 fun n => ?_
    rw [(left_ok h _).2 hj0 hj2, hown, hreg]
    by_cases hn : b.sp.1 ≤ n ∧ n ≤ b.sp.2
    · have r1 := hin n hn.1 hn.2
      have : reg m j n = false := by
        rw [← Bool.not_eq_true]
        intro hr
        have hj : j = 0 ∨ j = 1 ∨ j = 2 := by omega
        have hk : b.area = 0 ∨ b.area = 1 ∨ b.area = 2 := by omega
        rcases h.dis with d | d | d | d <;>
        rcases hj with rfl | rfl | rfl <;> rcases hk with e | e | e <;> rw [e] at r1 hjk <;> simp only [reg_zero, reg_one, reg_two] at hr r1 <;> first | omega | (rw [d] at hr; exact absurd rfl hr.1) | (rw [d] at r1; exact absurd rfl r1.1)
      rw [this]; simp
    · have : (decide (b.sp.1 ≤ n) && decide (n ≤ b.sp.2)) = false := by simp; omega
      rw [this]; simp
end Go.Proofs.Ytbeombmblifohaa.Sp
