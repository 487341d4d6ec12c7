/- Plain law of layer 12: the steps, and what the statements say of them. -/
import Derived.Test.YtbeombmblifohaaSpacePlain
namespace Go.Proofs.Ytbeombmblifohaa.Sp
set_option linter.unusedVariables false
set_option linter.unusedSimpArgs false

def putR (m : Spc) (b : Bk) : Spc := { m with L := insB b m.L }
def carveR (m : Spc) (k : Int) (s : S) : Spc × Int :=
  if k < 1 ∨ 2 < k then (m, 1) else if owns s = false then (m, 40) else if (m.at k).1 ≠ 0 then (m, 32) else if has (leftR m 0) s = false then (m, 42) else (m.lay k s, 0)
def busyB (m : Spc) (k : Int) : Bool := m.L.any fun b => decide (b.area = k)
def closeR (m : Spc) (k : Int) : Spc × Int :=
  if k < 1 ∨ 2 < k then (m, 1) else if (m.at k).1 = 0 then (m, 31) else if busyB m k = true then (m, 33) else (m.lay k (0, 0), 0)
def drawR (m : Spc) (o k z : Int) : Spc × S × Int :=
  if o < 1 ∨ k < 0 ∨ 2 < k ∨ z < 1 then (m, (0, 0), 1) else if 0 < k ∧ (m.at k).1 = 0 then (m, (0, 0), 31) else
    if (first (leftR m k) z).2 = true then (putR m ⟨(first (leftR m k) z).1, o, k⟩, (first (leftR m k) z).1, 0) else (m, (0, 0), 43)
/-- the area of which all labels of a span are left; -1: none -/
def inR (m : Spc) (s : S) : Int := if has (leftR m 0) s = true then 0 else if has (leftR m 1) s = true then 1 else if has (leftR m 2) s = true then 2 else -1
def takeR (m : Spc) (o : Int) (s : S) : Spc × Int :=
  if o < 1 then (m, 1) else if owns s = false then (m, 40) else if inR m s < 0 then (m, 42) else (putR m ⟨s, o, inR m s⟩, 0)
def isB (s : S) (o : Int) (b : Bk) : Bool := decide (b.sp = s) && decide (b.owner = o)
def freeR (m : Spc) (o : Int) (s : S) : Spc × Int := match m.L.findIdx? (isB s o) with
  | some i => ({ m with L := m.L.eraseIdx i }, 0)
  | none => (m, 31)
def hasL (n : Int) (b : Bk) : Bool := decide (b.sp.1 ≤ n) && decide (n ≤ b.sp.2)
def ownerR (m : Spc) (n : Int) : Int × Int := match m.L.find? (hasL n) with
  | some b => (b.owner, b.area)
  | none => (0, 0)
def areaR (m : Spc) (k : Int) : S × Bool := if k < 1 ∨ 2 < k ∨ (m.at k).1 = 0 then ((0, 0), false) else (m.at k, true)
def indexR (m : Spc) (n : Int) : Int × Bool := if m.a1.1 = 0 ∨ n < 0 ∨ m.a1.2 - m.a1.1 < n then (0, false) else (m.a1.1 + n, true)
def spc0 : Spc := ⟨(0, 0), (0, 0), []⟩
structure Stp where
  kind : Int
  owner : Int
  area : Int
  size : Int
  sp : S
def stepR (m : Spc) (x : Stp) : Spc :=
  if x.kind = 0 then (carveR m x.area x.sp).1 else if x.kind = 1 then (closeR m x.area).1 else if x.kind = 2 then (drawR m x.owner x.area x.size).1 else if x.kind = 3 then (takeR m x.owner x.sp).1 else if x.kind = 4 then (freeR m x.owner x.sp).1 else m
def runR (m : Spc) (l : List Stp) : Spc := l.foldl stepR m

theorem wf0 : WF spc0 := ⟨Or.inl rfl, Or.inl rfl, Or.inr (Or.inr (Or.inl rfl)), by simp [spc0], by simp [spc0], by simp [spc0], by simp [spc0]⟩
theorem insB_len (b : Bk) (L : List Bk) : (insB b L).length = L.length + 1 := by
  unfold insB
  rw [List.length_append, List.length_cons]
  have := congrArg List.length (List.takeWhile_append_dropWhile (p := fun c : Bk => decide (c.sp.1 < b.sp.1)) (l := L))
  rw [List.length_append] at this
  omega
theorem first_ok {l : List S} {z : Int} (h : (first l z).2 = true) : has l (first l z).1 = true ∧ size (first l z).1 = z := by
  obtain ⟨h1, h2, h3⟩ := first_yes (l := l) (many := z) (f := (first l z).1) (by rw [← h])
  exact ⟨h1, h2⟩
theorem inR_ok {m : Spc} {s : S} (h : ¬ inR m s < 0) : 0 ≤ inR m s ∧ inR m s ≤ 2 ∧ has (leftR m (inR m s)) s = true := by
  unfold inR at h ⊢
  split
  · exact ⟨by omega, by omega, by assumption⟩
  · split
    · exact ⟨by omega, by omega, by assumption⟩
    · split
      · exact ⟨by omega, by omega, by assumption⟩
      · rename_i h1 h2 h3; rw [if_neg h1, if_neg h2, if_neg h3] at h; omega
theorem carve_wf {m : Spc} (h : WF m) (k : Int) (s : S) : WF (carveR m k s).1 ∧ (carveR m k s).1.L.length ≤ m.L.length := by
  unfold carveR
  split
  · exact ⟨h, Nat.le_refl _⟩
  · split
    · exact ⟨h, Nat.le_refl _⟩
    · split
      · exact ⟨h, Nat.le_refl _⟩
      · split
        · exact ⟨h, Nat.le_refl _⟩
        · refine ⟨(carve_ok h (k := k) (by omega) (by simpa using (by assumption : ¬ (m.at k).1 ≠ 0)) (by simpa using (by assumption : ¬ has (leftR m 0) s = false))).1, ?_⟩
          unfold Spc.lay; split <;> exact Nat.le_refl _
theorem close_wf {m : Spc} (h : WF m) (k : Int) : WF (closeR m k).1 ∧ (closeR m k).1.L.length ≤ m.L.length := by
  unfold closeR
  split
  · exact ⟨h, Nat.le_refl _⟩
  · split
    · exact ⟨h, Nat.le_refl _⟩
    · split
      · exact ⟨h, Nat.le_refl _⟩
      · rename_i h1 h2 h3
        refine ⟨(close_ok h (k := k) (by omega) h2 ?_).1, ?_⟩
        · intro b hb he
          exact h3 (by unfold busyB; rw [List.any_eq_true]; exact ⟨b, hb, by simp [he]⟩)
        · unfold Spc.lay; split <;> exact Nat.le_refl _
theorem draw_wf {m : Spc} (h : WF m) (o k z : Int) : WF (drawR m o k z).1 ∧ (drawR m o k z).1.L.length ≤ m.L.length + 1 := by
  unfold drawR
  split
  · exact ⟨h, Nat.le_succ _⟩
  · split
    · exact ⟨h, Nat.le_succ _⟩
    · split
      · rename_i h1 h2 h3
        exact ⟨(put_ok h (k := k) (by omega) (by omega) (by omega) (first_ok h3).1).1, by show (insB _ _).length ≤ _; rw [insB_len]; exact Nat.le_refl _⟩
      · exact ⟨h, Nat.le_succ _⟩
theorem take_wf {m : Spc} (h : WF m) (o : Int) (s : S) : WF (takeR m o s).1 ∧ (takeR m o s).1.L.length ≤ m.L.length + 1 := by
  unfold takeR
  split
  · exact ⟨h, Nat.le_succ _⟩
  · split
    · exact ⟨h, Nat.le_succ _⟩
    · split
      · exact ⟨h, Nat.le_succ _⟩
      · rename_i h1 h2 h3
        obtain ⟨i0, i2, hh⟩ := inR_ok h3
        exact ⟨(put_ok h i0 i2 (by omega) hh).1, by show (insB _ _).length ≤ _; rw [insB_len]; exact Nat.le_refl _⟩
theorem free_wf {m : Spc} (h : WF m) (o : Int) (s : S) : WF (freeR m o s).1 ∧ (freeR m o s).1.L.length ≤ m.L.length := by
  unfold freeR
  split
  · rename_i i hi
    obtain ⟨h1, -, -⟩ := List.findIdx?_eq_some_iff_getElem.1 hi
    exact ⟨(free_ok h (List.getElem?_eq_getElem h1)).1, by show (m.L.eraseIdx i).length ≤ _; rw [List.length_eraseIdx]; split <;> omega⟩
  · exact ⟨h, Nat.le_refl _⟩
theorem step_wf {m : Spc} (h : WF m) (x : Stp) : WF (stepR m x) ∧ (stepR m x).L.length ≤ m.L.length + 1 := by
  unfold stepR
  split
  · exact ⟨(carve_wf h _ _).1, Nat.le_succ_of_le (carve_wf h _ _).2⟩
  · split
    · exact ⟨(close_wf h _).1, Nat.le_succ_of_le (close_wf h _).2⟩
    · split
      · exact draw_wf h _ _ _
      · split
        · exact take_wf h _ _
        · split
          · exact ⟨(free_wf h _ _).1, Nat.le_succ_of_le (free_wf h _ _).2⟩
          · exact ⟨h, Nat.le_succ _⟩
theorem run_wf : ∀ (l : List Stp) {m : Spc}, WF m → WF (runR m l) ∧ (runR m l).L.length ≤ m.L.length + l.length
  | [], m, h => ⟨h, Nat.le_refl _⟩
  | x :: l, m, h => by
    have h1 := step_wf h x
    have h2 := run_wf l h1.1
    exact ⟨h2.1, by have := h2.2; have := h1.2; show (runR (stepR m x) l).L.length ≤ _; rw [List.length_cons]; omega⟩
theorem run_snoc (m : Spc) (l : List Stp) (x : Stp) : runR m (l ++ [x]) = stepR (runR m l) x := by simp [runR]

/-- Apart -/
theorem reg_dis {m : Spc} (h : WF m) {j k n : Int} (hj0 : 0 ≤ j) (hj2 : j ≤ 2) (hk0 : 0 ≤ k) (hk2 : k ≤ 2) (h1 : reg m j n = true) (h2 : reg m k n = true) : j = k := by
  have hj : j = 0 ∨ j = 1 ∨ j = 2 := by omega
  have hk : k = 0 ∨ k = 1 ∨ k = 2 := by omega
  rcases h.dis with d | d | d | d <;>
  rcases hj with rfl | rfl | rfl <;> rcases hk with rfl | rfl | rfl <;> simp only [reg_zero, reg_one, reg_two] at h1 h2 <;> first | omega | (rw [d] at h1; exact absurd rfl h1.1) | (rw [d] at h2; exact absurd rfl h2.1)
theorem block_reg {m : Spc} (h : WF m) {b : Bk} (hb : b ∈ m.L) {n : Int} (h1 : b.sp.1 ≤ n) (h2 : n ≤ b.sp.2) : reg m b.area n = true := by
  obtain ⟨hos, ho1, ha0, ha2⟩ := h.ok b hb
  have hos' := owns_iff.1 hos
  by_cases h0 : b.area = 0
  · rw [h0, reg_zero]
    have := h.out b hb h0
    omega
  · have := h.inn b hb (by omega)
    unfold reg
    rw [if_neg h0]
    simp only [decide_eq_true_eq]
    omega
theorem apart_area {m : Spc} (h : WF m) {b : Bk} (hb : b ∈ m.L) {k : Int} (h0 : 0 < k) (h2 : k ≤ 2) : ((areaR m k).2 && (decide ((areaR m k).1.1 ≤ b.sp.1) && decide (b.sp.2 ≤ (areaR m k).1.2))) = decide (b.area = k) := by
  obtain ⟨hos, ho1, ha0, ha2⟩ := h.ok b hb
  have hos' := owns_iff.1 hos
  rw [Bool.eq_iff_iff]
  simp only [Bool.and_eq_true, decide_eq_true_eq]
  constructor
  · rintro ⟨e, e1, e2⟩
    unfold areaR at e e1 e2
    split at e
    · cases e
    · rename_i hz
      rw [if_neg hz] at e1 e2
      simp only at e1 e2
      refine reg_dis h ha0 ha2 (by omega) h2 (block_reg h hb (Int.le_refl _) hos'.2.1) (n := b.sp.1) ?_
      unfold reg
      rw [if_neg (by omega)]
      simp only [decide_eq_true_eq]
      omega
  · intro e
    have hi := h.inn b hb (by omega)
    rw [e] at hi
    unfold areaR
    rw [if_neg (by omega)]
    exact ⟨rfl, hi.2⟩
theorem apart_meets {m : Spc} (h : WF m) {b : Bk} (hb : b ∈ m.L) {k : Int} (h0 : 0 ≤ k) (h2 : k ≤ 2) : meets (leftR m k) b.sp = false := by
  refine no_meets fun n ⟨h1, h3, h4, h5⟩ => ?_
  have := (left_ok h k).2 h0 h2 n
  rw [inB_iff.2 h1, block_own hb h4 h5] at this
  simp at this
def sumB : List Bk → Int
  | [] => 0
  | b :: r => size b.sp + sumB r
theorem sumB_take {L : List Bk} {k : Nat} {b : Bk} (h : L[k]? = some b) : sumB (L.take (k + 1)) = sumB (L.take k) + size b.sp := by
  have key : ∀ (a : List Bk) (c : Bk), sumB (a ++ [c]) = sumB a + size c.sp := by
    intro a c
    induction a with
    | nil => simp [sumB]
    | cons x r ih => simp only [List.cons_append, sumB, ih]; omega
  obtain ⟨h1, h2⟩ := List.getElem?_eq_some_iff.1 h
  rw [List.take_succ_eq_append_getElem h1, h2, key]
theorem own_cnt : ∀ (L : List Bk), (∀ b ∈ L, mayB b.sp = true) → L.Pairwise (fun a b => a.sp.2 < b.sp.1) → sumB L = cnt (fun n => L.any (hasL n)) 1048576
  | [], _, _ => (cnt_none (p := fun n => ([] : List Bk).any (hasL n)) (N := 1048576) (fun n => rfl)).symm
  | b :: r, hm, hp => by
    rw [List.pairwise_cons] at hp
    have ih := own_cnt r (fun c hc => hm c (by simp [hc])) hp.2
    have hb := hm b (by simp)
    rw [sumB, ih, ← cnt_size hb (N := 1048576) (by decide)]
    symm
    refine cnt_or (fun n => by simp [List.any_cons, hasL]) (fun n => ?_)
    rintro ⟨h1, h2⟩
    rw [List.any_eq_true] at h2
    obtain ⟨c, hc, hcn⟩ := h2
    have := hp.1 c hc
    simp [hasL] at h1 hcn
    omega
theorem apart_sum {m : Spc} (h : WF m) : sumB m.L + count (leftR m 0) + count (leftR m 1) + count (leftR m 2) = 1048560 := by
  have hN : (1048576 : Int) ≤ ((1048576 : Nat) : Int) := by decide
  have ho : sumB m.L = cnt (ownB m) 1048576 := own_cnt m.L (fun b hb => owns_may (h.ok b hb).1) h.srt
  have hk : ∀ k, 0 ≤ k → k ≤ 2 → count (leftR m k) = cnt (fun n => reg m k n && !ownB m n) 1048576 := fun k h0 h2 => by
    rw [count_cnt hN]
    exact cnt_congr fun n _ _ => (left_ok h k).2 h0 h2 n
  rw [ho, hk 0 (by omega) (by omega), hk 1 (by omega) (by omega), hk 2 (by omega) (by omega)]
  have e1 : cnt (fun n => ownB m n || (reg m 0 n && !ownB m n)) 1048576 = cnt (ownB m) 1048576 + cnt (fun n => reg m 0 n && !ownB m n) 1048576 :=
    cnt_or (fun n => rfl) (fun n hh => by cases hO : ownB m n <;> simp [hO] at hh)
  have e2 : cnt (fun n => (ownB m n || (reg m 0 n && !ownB m n)) || (reg m 1 n && !ownB m n)) 1048576 = cnt (fun n => ownB m n || (reg m 0 n && !ownB m n)) 1048576 + cnt (fun n => reg m 1 n && !ownB m n) 1048576 :=
    cnt_or (fun n => rfl) (fun n hh => by
      cases hO : ownB m n
      · simp [hO] at hh
        have := reg_dis h (by omega) (by omega) (by omega) (by omega) hh.1 hh.2
        omega
      · simp [hO] at hh)
  have e3 : cnt (fun n => ((ownB m n || (reg m 0 n && !ownB m n)) || (reg m 1 n && !ownB m n)) || (reg m 2 n && !ownB m n)) 1048576 = cnt (fun n => (ownB m n || (reg m 0 n && !ownB m n)) || (reg m 1 n && !ownB m n)) 1048576 + cnt (fun n => reg m 2 n && !ownB m n) 1048576 :=
    cnt_or (fun n => rfl) (fun n hh => by
      cases hO : ownB m n
      · simp [hO] at hh
        rcases hh.1 with h1 | h1
        · have := reg_dis h (by omega) (by omega) (by omega) (by omega) h1 hh.2
          omega
        · have := reg_dis h (by omega) (by omega) (by omega) (by omega) h1 hh.2
          omega
      · simp [hO] at hh)
  have e4 : cnt (fun n => ((ownB m n || (reg m 0 n && !ownB m n)) || (reg m 1 n && !ownB m n)) || (reg m 2 n && !ownB m n)) 1048576 = cnt (fun n => decide (16 ≤ n) && decide (n ≤ 1048575)) 1048576 :=
    cnt_congr fun n _ _ => by
      rw [Bool.eq_iff_iff]
      constructor
      · intro hh
        have hb : 16 ≤ n ∧ n ≤ 1048575 := by
          cases hO : ownB m n
          · simp [hO] at hh
            rcases hh with (h1 | h1) | h1
            · exact reg_bd h h1
            · exact reg_bd h h1
            · exact reg_bd h h1
          · obtain ⟨b, hb, h1, h2⟩ := own_iff.1 hO
            exact reg_bd h (block_reg h hb h1 h2)
        simp; omega
      · intro hh
        simp at hh
        cases hO : ownB m n
        · by_cases r1 : reg m 1 n = true
          · simp [r1]
          · by_cases r2 : reg m 2 n = true
            · simp [r2]
            · have r0 : reg m 0 n = true := by
                rw [reg_zero]
                rw [reg_one] at r1
                rw [reg_two] at r2
                omega
              simp [r0]
        · simp
  rw [cnt_span 16 1048575 (by omega) (by omega), if_neg (by decide), if_neg (by decide)] at e4
  omega

/-- Back -/
theorem not_in {m : Spc} (h : WF m) {k : Int} (h0 : 0 ≤ k) (h2 : k ≤ 2) {s : S} (hs : has (leftR m k) s = true) : ∀ b ∈ m.L, b.sp.2 < s.1 ∨ s.2 < b.sp.1 := by
  intro b hb
  obtain ⟨hm, hl⟩ := has_left h h0 h2 hs
  have hos' := owns_iff.1 (has_owns h h0 h2 hs)
  have hbo := owns_iff.1 (h.ok b hb).1
  by_cases h1 : b.sp.2 < s.1
  · exact Or.inl h1
  · by_cases h2 : s.2 < b.sp.1
    · exact Or.inr h2
    · have h3 := (hl (max s.1 b.sp.1) (by omega) (by omega)).2
      rw [block_own hb (by omega) (by omega)] at h3
      cases h3
theorem free_none {m : Spc} (h : WF m) {k : Int} (h0 : 0 ≤ k) (h2 : k ≤ 2) {s : S} (hs : has (leftR m k) s = true) (o : Int) : freeR m o s = (m, 31) := by
  have hos' := owns_iff.1 (has_owns h h0 h2 hs)
  have : m.L.findIdx? (isB s o) = none := by
    rw [List.findIdx?_eq_none_iff]
    intro b hb
    have := not_in h h0 h2 hs b hb
    simp only [isB, Bool.and_eq_false_iff, decide_eq_false_iff_not]
    left
    intro e
    rw [e] at this
    omega
  unfold freeR
  rw [this]
theorem find_put {m : Spc} (h : WF m) {k : Int} (h0 : 0 ≤ k) (h2 : k ≤ 2) {s : S} (hs : has (leftR m k) s = true) (o : Int) (p : Bk → Bool) (hp : ∀ b ∈ m.L, p b = false) :
    (p ⟨s, o, k⟩ = true → (insB ⟨s, o, k⟩ m.L).find? p = some ⟨s, o, k⟩ ∧ ∃ i, (insB ⟨s, o, k⟩ m.L).findIdx? p = some i ∧ (insB ⟨s, o, k⟩ m.L).eraseIdx i = m.L) ∧ (p ⟨s, o, k⟩ = false → (insB ⟨s, o, k⟩ m.L).findIdx? p = none) := by
  have hsub : ∀ c ∈ m.L.takeWhile (fun c => decide (c.sp.1 < s.1)), p c = false := fun c hc => hp c ((List.takeWhile_sublist _).subset hc)
  constructor
  · intro hb
    have hn : (m.L.takeWhile (fun c => decide (c.sp.1 < s.1))).findIdx? p = none := by rw [List.findIdx?_eq_none_iff]; exact hsub
    refine ⟨?_, ?_⟩
    · unfold insB
      rw [List.find?_append, List.find?_eq_none.2 (fun c hc => by simp [hsub c hc])]
      simp [hb]
    · refine ⟨(m.L.takeWhile (fun c => decide (c.sp.1 < s.1))).length, ?_, ?_⟩
      · unfold insB
        rw [List.findIdx?_append, hn, List.findIdx?_cons, hb]
        simp
      · unfold insB
        rw [List.eraseIdx_append_of_length_le (Nat.le_refl _)]
        simp
  · intro hb
    rw [List.findIdx?_eq_none_iff]
    intro c hc
    rcases mem_insB.1 hc with rfl | hc
    · exact hb
    · exact hp c hc
theorem put_back {m : Spc} (h : WF m) {k : Int} (h0 : 0 ≤ k) (h2 : k ≤ 2) {s : S} (hs : has (leftR m k) s = true) (o : Int) :
    ownerR (putR m ⟨s, o, k⟩) s.2 = (o, k) ∧ (∀ o', o' ≠ o → freeR (putR m ⟨s, o, k⟩) o' s = (putR m ⟨s, o, k⟩, 31)) ∧ freeR (putR m ⟨s, o, k⟩) o s = (m, 0) := by
  have hos' := owns_iff.1 (has_owns h h0 h2 hs)
  have hd := not_in h h0 h2 hs
  have hno : ∀ o', ∀ b ∈ m.L, isB s o' b = false := by
    intro o' b hb
    have := hd b hb
    simp only [isB, Bool.and_eq_false_iff, decide_eq_false_iff_not]
    left
    intro e
    rw [e] at this
    omega
  refine ⟨?_, ?_, ?_⟩
  · have h1 := (find_put h h0 h2 hs o (hasL s.2) (fun b hb => by
      have := hd b hb
      have hbo := owns_iff.1 (h.ok b hb).1
      simp only [hasL, Bool.and_eq_false_iff, decide_eq_false_iff_not]
      omega)).1 (by simp [hasL]; omega)
    unfold ownerR putR
    simp only [h1.1]
  · intro o' ho
    have h1 := (find_put h h0 h2 hs o (isB s o') (hno o')).2 (by simp [isB]; exact fun e => ho e.symm)
    unfold freeR putR
    simp only [h1]
  · obtain ⟨-, i, h1, h2'⟩ := (find_put h h0 h2 hs o (isB s o) (hno o)).1 (by simp [isB])
    unfold freeR putR
    simp only [h1, h2']
theorem longest_has {l : List S} {s : S} (h : has l s = true) : size s ≤ longest l := by
  unfold has at h
  simp only [Bool.and_eq_true, List.any_eq_true, decide_eq_true_eq] at h
  obtain ⟨hm, x, hx, h1, h2⟩ := h
  have := le_most hx
  unfold longest
  unfold size at this ⊢
  omega
theorem draw_some {m : Spc} (h : WF m) {o k z : Int} (ho : 1 ≤ o) (h0 : 0 ≤ k) (h2 : k ≤ 2) (hz : 1 ≤ z) :
    (∃ s, drawR m o k z = (putR m ⟨s, o, k⟩, s, 0) ∧ has (leftR m k) s = true ∧ size s = z ∧ first (leftR m k) z = (s, true)) ∨
    (drawR m o k z = (m, (0, 0), 31) ∧ 0 < k ∧ (m.at k).1 = 0 ∧ (first (leftR m k) z).2 = false) ∨
    (drawR m o k z = (m, (0, 0), 43) ∧ longest (leftR m k) < z ∧ (first (leftR m k) z).2 = false) := by
  unfold drawR
  rw [if_neg (by omega)]
  by_cases hk : 0 < k ∧ (m.at k).1 = 0
  · rw [if_pos hk]
    refine Or.inr (Or.inl ⟨rfl, hk.1, hk.2, ?_⟩)
    unfold leftR
    rw [if_pos (Or.inr (Or.inr hk))]
    unfold first
    rw [if_neg (by omega)]
    rfl
  · rw [if_neg hk]
    by_cases hf : (first (leftR m k) z).2 = true
    · rw [if_pos hf]
      obtain ⟨h3, h4⟩ := first_ok hf
      exact Or.inl ⟨_, rfl, h3, h4, by rw [← hf]⟩
    · rw [if_neg hf]
      have hf' : (first (leftR m k) z).2 = false := by simpa using hf
      refine Or.inr (Or.inr ⟨rfl, ?_, hf'⟩)
      rcases (first_no hf').2 with h3 | h3
      · omega
      · exact h3
/-- Lowest: what is drawn can be taken alike -/
theorem take_drawn {m : Spc} (h : WF m) {o k : Int} (ho : 1 ≤ o) (h0 : 0 ≤ k) (h2 : k ≤ 2) {s : S} (hs : has (leftR m k) s = true) : takeR m o s = (putR m ⟨s, o, k⟩, 0) := by
  have hos := has_owns h h0 h2 hs
  have hos' := owns_iff.1 hos
  have hreg := ((has_left h h0 h2 hs).2 s.1 (Int.le_refl _) hos'.2.1).1
  have hj : ∀ j, 0 ≤ j → j ≤ 2 → has (leftR m j) s = true → j = k := fun j j0 j2 hj => reg_dis h j0 j2 h0 h2 ((has_left h j0 j2 hj).2 s.1 (Int.le_refl _) hos'.2.1).1 hreg
  have hin : inR m s = k := by
    unfold inR
    split
    · exact hj 0 (by omega) (by omega) (by assumption)
    · split
      · exact hj 1 (by omega) (by omega) (by assumption)
      · split
        · exact hj 2 (by omega) (by omega) (by assumption)
        · exfalso
          have : k = 0 ∨ k = 1 ∨ k = 2 := by omega
          rcases this with rfl | rfl | rfl
          · contradiction
          · contradiction
          · contradiction
  unfold takeR
  rw [if_neg (by omega), if_neg (by rw [hos]; simp), if_neg (by omega), hin]
end Go.Proofs.Ytbeombmblifohaa.Sp
