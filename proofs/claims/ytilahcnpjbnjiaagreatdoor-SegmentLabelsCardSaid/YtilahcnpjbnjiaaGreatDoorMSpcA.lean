import Derived.Test.YtilahcnpjbnjiaaGreatDoorSpcIn
/- The space package: owns, is, Area, Index, Left, Blocks, in, cut, add. -/
namespace Go.Proofs.YtilahcnpjbnjiaaGreatDoor
set_option linter.unusedVariables false
set_option linter.unusedSimpArgs false
open Go.RowKit Go.Shelf Go.Proofs

theorem spc_owns (a b : Int) (w : World) :
    Calls Tryz.prog 54 #[.agg #[.int .i64 a, .int .i64 b]] w fun e w' => e = .returned (.bool (Sp.owns (a, b))) ∧ Below w.heap.size w w' := by
  have hr : Hid (Sp.owns (a, b) = (decide (16 ≤ a) && decide (a ≤ b) && decide (b ≤ 1048575))) := Lib.hid rfl
  rw [hr.out]
  by_cases c1 : 16 ≤ a <;> by_cases c2 : a ≤ b <;> by_cases c3 : b ≤ 1048575
  all_goals try (exfalso; omega)
  all_goals
    simp only [c1, c2, c3, decide_true, decide_false, Bool.and_true, Bool.and_false, Bool.false_and, Bool.true_and]
    first | (have e1 : decide (16 ≤ a) = true := by simpa using c1) | (have e1 : decide (16 ≤ a) = false := by simpa using c1)
    first | (have e2 : decide (a ≤ b) = true := by simpa using c2) | (have e2 : decide (a ≤ b) = false := by simpa using c2)
    first | (have e3 : decide (b ≤ 1048575) = true := by simpa using c3) | (have e3 : decide (b ≤ 1048575) = false := by simpa using c3)
    go_enter Tryz.func54, Tryz.ntmps54
    go_wp2
    go_ret
    exact ⟨rfl, (Below.refl _ _).alloc (Nat.le_refl _) _⟩
theorem spc_is (g : Nat) (k : Int) (w : World) :
    Calls Tryz.prog 45 #[.pointer (some ⟨g, 0, none⟩), .int .i64 k] w fun e w' => e = .returned (.bool (decide (0 < k) && decide (k < 3))) ∧ w' = w := by
  by_cases c1 : 0 < k <;> by_cases c2 : k < 3
  all_goals
    simp only [c1, c2, decide_true, decide_false, Bool.and_true, Bool.and_false, Bool.false_and, Bool.true_and]
    first | (have e1 : decide (0 < k) = true := by simpa using c1) | (have e1 : decide (0 < k) = false := by simpa using c1)
    first | (have e2 : decide (k < 3) = true := by simpa using c2) | (have e2 : decide (k < 3) = false := by simpa using c2)
    go_enter Tryz.func45, Tryz.ntmps45
    go_wp2
    go_ret
    exact ⟨rfl, rfl⟩
/-- a span and whether there is one come back -/
def RetSB (r : Sp.S × Bool) (w : World) (e : Ending) (w' : World) : Prop := e = .returned (.tuple #[.agg #[.int .i64 r.1.1, .int .i64 r.1.2], .bool r.2]) ∧ Below w.heap.size w w'
set_option maxHeartbeats 1000000 in
theorem spc_Area (g : Nat) (k : Int) (v0 v1 v2 vb : Value) (m : Sp.Spc) (hm : Sp.WF m) (w : World) (h : Blk w g 96 (spcA v0 v1 v2 m vb)) :
    Calls Tryz.prog 22 #[.pointer (some ⟨g, 0, none⟩), .int .i64 k] w (RetSB (Sp.areaR m k) w) := by
  have IS := Lib.hid fun W => spc_is g k W
  have hz := hm.at_pos k
  by_cases hk : k < 1 ∨ 2 < k
  · have hr : Sp.areaR m k = ((0, 0), false) := by unfold Sp.areaR; rw [if_pos (by omega)]
    rw [hr]
    have e : (decide (0 < k) && decide (k < 3)) = false := by simp; omega
    rw [e] at IS
    clear e hr hz
    go_enter Tryz.func22, Tryz.ntmps22
    go_wp2_with fail
    refine (IS.out _).mono ?_
    rintro e w1 ⟨rfl, hw1⟩
    subst hw1
    go_wp2_with fail
    exact bodyPost_ret (v := .tuple #[.agg #[.int .i64 0, .int .i64 0], .bool false]) (by simp [results, Tryz.results22, go_sem]) rfl ⟨rfl, (Below.refl _ _).alloc (Nat.le_refl _) _⟩
  · have e : (decide (0 < k) && decide (k < 3)) = true := by simp; omega
    rw [e] at IS
    clear e
    have hgl := h.lt
    have hk12 : k = 1 ∨ k = 2 := by omega
    have hat : (if (m.at k).1 = 0 then Sp.areaR m k = ((0, 0), false) else Sp.areaR m k = (m.at k, true)) := by
      split
      · unfold Sp.areaR; rw [if_pos (by omega)]
      · unfold Sp.areaR; rw [if_neg (by omega)]
    obtain ⟨x, y, hxy⟩ : ∃ x y : Int, m.at k = (x, y) := ⟨_, _, rfl⟩
    rw [hxy] at hat hz
    simp only at hat hz
    have hcx : ∀ o, (w.alloc o).cell? ⟨g, 3 + k.toNat * 2, none⟩ = some (.int .i64 x) := fun o => by
      rw [(h.alloc o).cell]
      rcases hk12 with rfl | rfl
      · have : m.a1 = (x, y) := hxy
        simp [spcA, this]
      · have : m.a2 = (x, y) := hxy
        simp [spcA, this]
    have hcy : ∀ o, (w.alloc o).cell? ⟨g, 3 + k.toNat * 2 + 1, none⟩ = some (.int .i64 y) := fun o => by
      rw [(h.alloc o).cell]
      rcases hk12 with rfl | rfl
      · have : m.a1 = (x, y) := hxy
        simp [spcA, this]
      · have : m.a2 = (x, y) := hxy
        simp [spcA, this]
    have hk0 : 0 ≤ k := by omega
    have hk3 : k < 3 := by omega
    clear hxy h hk
    by_cases hx : x = 0
    · have hxy := hz.1 hx
      rw [if_pos hx] at hat
      rw [hat]
      cases hxy
      clear hat hz hx
      go_enter Tryz.func22, Tryz.ntmps22
      go_wp2_with fail
      refine (IS.out _).mono ?_
      rintro e w1 ⟨rfl, hw1⟩
      subst hw1
      go_wp2_with fail
      exact bodyPost_ret (v := .tuple #[.agg #[.int .i64 0, .int .i64 0], .bool false]) (by simp [results, Tryz.results22, go_sem]) rfl ⟨rfl, (Below.refl _ _).alloc (Nat.le_refl _) _⟩
    · rw [if_neg hx] at hat
      rw [hat]
      clear hat hz
      go_enter Tryz.func22, Tryz.ntmps22
      go_wp2_with fail
      refine (IS.out _).mono ?_
      rintro e w1 ⟨rfl, hw1⟩
      subst hw1
      go_wp2_with fail
      exact bodyPost_ret (v := .tuple #[.agg #[.int .i64 x, .int .i64 y], .bool true]) (by simp [results, Tryz.results22, go_sem]) rfl ⟨rfl, (Below.refl _ _).alloc (Nat.le_refl _) _⟩
/-- an int and whether there is one come back -/
def RetIB (r : Int × Bool) (w : World) (e : Ending) (w' : World) : Prop := e = .returned (.tuple #[.int .i64 r.1, .bool r.2]) ∧ Below w.heap.size w w'
set_option maxHeartbeats 1000000 in
theorem spc_Index (g : Nat) (n : Int) (v0 v1 v2 vb : Value) (m : Sp.Spc) (hm : Sp.WF m) (w : World) (h : Blk w g 96 (spcA v0 v1 v2 m vb)) :
    Calls Tryz.prog 37 #[.pointer (some ⟨g, 0, none⟩), .int .i64 n] w (RetIB (Sp.indexR m n) w) := by
  have AR := spc_Area g 1 v0 v1 v2 vb m hm w h
  have hbd : (m.a1.1 = 0) ∨ (16 ≤ m.a1.1 ∧ m.a1.1 ≤ m.a1.2 ∧ m.a1.2 ≤ 1048575) := by
    rcases hm.w1 with e | e
    · left; rw [e]
    · right; exact Sp.owns_iff.1 e
  have har : Sp.areaR m 1 = if m.a1.1 = 0 then ((0, 0), false) else (m.a1, true) := by
    unfold Sp.areaR
    have : m.at 1 = m.a1 := rfl
    rw [this]
    by_cases hz : m.a1.1 = 0
    · rw [if_pos (by omega), if_pos hz]
    · rw [if_neg (by omega), if_neg hz]
  rw [har] at AR
  have hI : Sp.indexR m n = if m.a1.1 = 0 ∨ n < 0 ∨ m.a1.2 - m.a1.1 < n then (0, false) else (m.a1.1 + n, true) := rfl
  rw [hI]
  generalize m.a1 = s at *
  obtain ⟨x, y⟩ := s
  simp only at AR hbd ⊢
  clear har hI h hm
  by_cases hx : x = 0
  · rw [if_pos hx] at AR
    rw [if_pos (Or.inl hx)]
    have AH := Lib.hid AR
    clear AR hx hbd
    go_enter Tryz.func37, Tryz.ntmps37
    go_wp2_with fail
    refine AH.out.mono ?_
    rintro e w1 ⟨rfl, hb1⟩
    go_wp2_with fail
    exact bodyPost_ret (v := .tuple #[.int .i64 0, .bool false]) (by simp [results, Tryz.results37, go_sem]) rfl ⟨rfl, hb1.alloc hb1.size _⟩
  · rw [if_neg hx] at AR
    have AH := Lib.hid AR
    have hb : 16 ≤ x ∧ x ≤ y ∧ y ≤ 1048575 := by omega
    obtain ⟨b1, b2, b3⟩ := hb
    by_cases hn : n < 0
    · rw [if_pos (Or.inr (Or.inl hn))]
      clear AR hx hbd
      go_enter Tryz.func37, Tryz.ntmps37
      go_wp2_with fail
      refine AH.out.mono ?_
      rintro e w1 ⟨rfl, hb1⟩
      go_wp2_with fail
      exact bodyPost_ret (v := .tuple #[.int .i64 0, .bool false]) (by simp [results, Tryz.results37, go_sem]) rfl ⟨rfl, hb1.alloc hb1.size _⟩
    · by_cases hd : y - x < n
      · rw [if_pos (Or.inr (Or.inr hd))]
        clear AR hx hbd
        go_enter Tryz.func37, Tryz.ntmps37
        go_wp2_with fail
        refine AH.out.mono ?_
        rintro e w1 ⟨rfl, hb1⟩
        go_wp2_with fail
        exact bodyPost_ret (v := .tuple #[.int .i64 0, .bool false]) (by simp [results, Tryz.results37, go_sem]) rfl ⟨rfl, hb1.alloc hb1.size _⟩
      · rw [if_neg (by omega)]
        clear AR hx hbd
        have hn0 : 0 ≤ n := by omega
        go_enter Tryz.func37, Tryz.ntmps37
        go_wp2_with fail
        refine AH.out.mono ?_
        rintro e w1 ⟨rfl, hb1⟩
        go_wp2_with fail
        exact bodyPost_ret (v := .tuple #[.int .i64 (x + n), .bool true]) (by simp [results, Tryz.results37, go_sem]) rfl ⟨rfl, hb1.alloc hb1.size _⟩
theorem spc_Blocks (g : Nat) (v0 v1 v2 vb : Value) (m : Sp.Spc) (hl : m.L.length ≤ 1000000) (r : Option Nat) (w : World) (h : SpcV w g r m v0 v1 v2 vb) :
    Calls Tryz.prog 46 #[.pointer (some ⟨g, 0, none⟩)] w (RetRow w.heap.size 99 4 m.L.length (flat encBk m.L) w) := by
  have HC := Lib.hid (cloneBk_any m.L (by omega) vb w (SlR.of_owns encBk_len h.2.2.2.2.1))
  have c9 : w.cell? ⟨g, 9, none⟩ = some vb := h.1.cell 9
  generalize flat encBk m.L = F at HC ⊢
  clear h
  go_enter Tryz.func46, Tryz.ntmps46
  go_wp2_with fail
  refine HC.out.mono ?_
  rintro e w1 ⟨v, rfl, ho, hb⟩
  go_wp2_with fail
  go_ret
  exact ⟨v, rfl, ho, hb⟩
/-- a slice of spans comes back -/
def RetSl (l : List Sp.S) (w : World) (e : Ending) (w' : World) : Prop := ∃ v, e = .returned v ∧ SlR w' 2 encSp v l ∧ Below w.heap.size w w'
theorem slr_nil (w : World) : SlR w 2 encSp (.slice none 0 0) [] := ⟨none, 0, rfl, Nat.le_refl _, by omega, fun _ => rfl, fun a ha => by cases ha⟩
theorem spc_cell {w : World} {g : Nat} {t : TypeId} {v0 v1 v2 vb : Value} {m : Sp.Spc} (h : Blk w g t (spcA v0 v1 v2 m vb)) {k : Int} (h0 : 0 ≤ k) (h2 : k ≤ 2) : w.cell? ⟨g, k.toNat, none⟩ = some (vAt v0 v1 v2 k) := by
  have : k = 0 ∨ k = 1 ∨ k = 2 := by omega
  rcases this with rfl | rfl | rfl
  · exact h.cell 0
  · exact h.cell 1
  · exact h.cell 2
end Go.Proofs.YtilahcnpjbnjiaaGreatDoor

/- The space package: in, cut, add. -/
namespace Go.Proofs.YtilahcnpjbnjiaaGreatDoor
set_option linter.unusedVariables false
set_option linter.unusedSimpArgs false
open Go.RowKit Go.Shelf Go.Proofs

theorem spc_in (g : Nat) (a b : Int) (v0 v1 v2 vb : Value) (m : Sp.Spc) (hm : Sp.WF m) (r : Option Nat) (w : World) (h : SpcV w g r m v0 v1 v2 vb) :
    Calls Tryz.prog 60 #[.pointer (some ⟨g, 0, none⟩), .agg #[.int .i64 a, .int .i64 b]] w fun e w' => e = .returned (.int .i64 (Sp.inR m (a, b))) ∧ Below w.heap.size w w' := by
  have hal : Tryz.prog.arrayLen 91 = 3 := by kernel_rfl
  have hB0 : Below w.heap.size w (w.alloc (.cells #[.int .i64 a, .int .i64 b] 35)) := belowA w _
  have h' := h.below hB0
  have hi : I3 (w.alloc (.cells #[.int .i64 a, .int .i64 b] 35)) (w.alloc (.cells #[.int .i64 a, .int .i64 b] 35)) g w.heap.size a b v0 v1 v2 (Sp.leftR m 0) (Sp.leftR m 1) (Sp.leftR m 2) :=
    ⟨h'.1.cell 0, h'.1.cell 1, h'.1.cell 2, h'.2.1.1, h'.2.2.1.1, h'.2.2.2.1.1, (Blk.new w _ _).cell 0, (Blk.new w _ _).cell 1, Below.refl _ _⟩
  have l0 := Sp.left_len hm 0
  have l1 := Sp.left_len hm 1
  have l2 := Sp.left_len hm 2
  have HC := Lib.hid (index3 g w.heap.size a b v0 v1 v2 (Sp.leftR m 0) (Sp.leftR m 1) (Sp.leftR m 2) (by omega) (by omega) (by omega) _ hi)
  have hr : in3 (Sp.leftR m 0) (Sp.leftR m 1) (Sp.leftR m 2) (a, b) = Sp.inR m (a, b) := rfl
  rw [hr] at HC
  generalize Sp.inR m (a, b) = n at HC ⊢
  have HB := Lib.hid hB0
  clear hi h' l0 l1 l2 hr hm h hB0
  go_enter Tryz.func60, Tryz.ntmps60
  go_wp2_with fail
  refine HC.out.mono ?_
  rintro e w1 ⟨rfl, hb1⟩
  go_wp2_with fail
  go_ret
  exact ⟨rfl, HB.out.trans (hb1.mono HB.out.size)⟩

/-- what a call that turns one slice of an area leaves -/
def RetCut (g : Nat) (k : Int) (l : List Sp.S) (W : World) (e : Ending) (w' : World) : Prop :=
  e = .returned (.tuple #[]) ∧ ∃ v' W1, W1.ownsRow W.heap.size 35 2 v' l.length (flat encSp l) ∧ Below W.heap.size W W1 ∧ w' = W1.setCell ⟨g, k.toNat, none⟩ v'
abbrev SC (w : World) (g kn : Nat) (v : Value) (a b : Int) (l : List Sp.S) (W : World) : Prop :=
  W.cell? ⟨g, kn, none⟩ = some v ∧ W.frozen? ⟨g, kn, none⟩ = false ∧ W.cell? ⟨w.heap.size, 0, none⟩ = some (.int .i64 a) ∧ W.cell? ⟨w.heap.size, 1, none⟩ = some (.int .i64 b) ∧ Hid (SlR W 2 encSp v l) ∧ Below w.heap.size w W
theorem SC.next {w W W' : World} {g kn : Nat} {v : Value} {a b : Int} {l : List Sp.S} (h : SC w g kn v a b l W) (hb : Below W.heap.size W W') : SC w g kn v a b l W' := by
  obtain ⟨h1, h2, h3, h4, h5, h6⟩ := h
  have hg : g < W.heap.size := World.block_lt_of_cell? W _ h1
  have hB : w.heap.size < W.heap.size := World.block_lt_of_cell? W _ h3
  exact ⟨(hb.cell (p := ⟨g, kn, none⟩) hg).trans h1, (hb.frozen (p := ⟨g, kn, none⟩) hg).trans h2, (hb.cell (p := ⟨w.heap.size, 0, none⟩) hB).trans h3, (hb.cell (p := ⟨w.heap.size, 1, none⟩) hB).trans h4, Lib.hid (h5.out.below hb (Nat.le_refl _)), h6.trans (hb.mono h6.size)⟩
set_option maxHeartbeats 1000000 in
theorem free_cut (g : Nat) (k : Int) (h0 : 0 ≤ k) (h2 : k ≤ 2) (v : Value) (l : List Sp.S) (a b : Int) (w : World) (hc : w.cell? ⟨g, k.toNat, none⟩ = some v) (hf : w.frozen? ⟨g, k.toNat, none⟩ = false) (hv : SlR w 2 encSp v l) (hl : l.length ≤ 536870912) :
    Calls Tryz.prog 56 #[.pointer (some ⟨g, 0, none⟩), .int .i64 k, .agg #[.int .i64 a, .int .i64 b]] w (RetCut g k (Sp.cut l (a, b)) w) := by
  have hgl : g < w.heap.size := World.block_lt_of_cell? w _ hc
  have CC := Lib.hid fun W h => spans_Cut l (a, b) v W hl h
  have hk3 : k < 3 := by omega
  have hst : SC w g k.toNat v a b l (w.alloc (.cells #[.int .i64 a, .int .i64 b] 35)) :=
    ⟨((belowA w _).cell (p := ⟨g, k.toNat, none⟩) hgl).trans hc, ((belowA w _).frozen (p := ⟨g, k.toNat, none⟩) hgl).trans hf, (Blk.new w _ _).cell 0, (Blk.new w _ _).cell 1, Lib.hid (hv.below (belowA w _) (Nat.le_refl _)), belowA w _⟩
  have HST := Lib.hid hst
  generalize Sp.cut l (a, b) = m at CC ⊢
  clear hst hv hc hf
  go_enter Tryz.func56, Tryz.ntmps56
  go_wp2_with fail
  have hst := HST.out
  obtain ⟨q1, q2, q3, q4, q5, q6⟩ := hst
  go_region_with ((go_at_call 77; refine (CC.out _ (by first | exact q5.out | exact (q5.out.below (below_drewN (Below.refl _ _) _) (Nat.le_refl _)))).mono ?_; rintro e w1 ⟨v1, rfl, ho1, hb1⟩; obtain ⟨p1, cc1, rfl, -, -, -⟩ := owns_sp ho1; have hst1 := SC.next (w := w) (g := g) (kn := k.toNat) (v := v) (a := a) (b := b) (l := l) ⟨q1, q2, q3, q4, q5, q6⟩ (by first | exact hb1 | exact (Below.refl _ _).drew.trans hb1 | exact (below_drewN (Below.refl _ _) _).trans hb1); have u1 := hst1.1; have u2 := hst1.2.1; have u6 := hst1.2.2.2.2.2))
  all_goals go_end0
  all_goals exact ⟨rfl, _, w1, owns_base ho1 (by simp), u6, rfl⟩
set_option maxHeartbeats 1000000 in
theorem free_add (g : Nat) (k : Int) (h0 : 0 ≤ k) (h2 : k ≤ 2) (v : Value) (l : List Sp.S) (a b : Int) (w : World) (hc : w.cell? ⟨g, k.toNat, none⟩ = some v) (hf : w.frozen? ⟨g, k.toNat, none⟩ = false) (hv : SlR w 2 encSp v l) (hl : l.length ≤ 536870912) :
    Calls Tryz.prog 53 #[.pointer (some ⟨g, 0, none⟩), .int .i64 k, .agg #[.int .i64 a, .int .i64 b]] w (RetCut g k (Sp.add l (a, b)) w) := by
  have hgl : g < w.heap.size := World.block_lt_of_cell? w _ hc
  have CC := Lib.hid fun W h => spans_Add l hl (a, b) v W h
  have hk3 : k < 3 := by omega
  have hst : SC w g k.toNat v a b l (w.alloc (.cells #[.int .i64 a, .int .i64 b] 35)) :=
    ⟨((belowA w _).cell (p := ⟨g, k.toNat, none⟩) hgl).trans hc, ((belowA w _).frozen (p := ⟨g, k.toNat, none⟩) hgl).trans hf, (Blk.new w _ _).cell 0, (Blk.new w _ _).cell 1, Lib.hid (hv.below (belowA w _) (Nat.le_refl _)), belowA w _⟩
  have HST := Lib.hid hst
  generalize Sp.add l (a, b) = m at CC ⊢
  clear hst hv hc hf
  go_enter Tryz.func53, Tryz.ntmps53
  go_wp2_with fail
  have hst := HST.out
  obtain ⟨q1, q2, q3, q4, q5, q6⟩ := hst
  go_region_with ((go_at_call 72; refine (CC.out _ (by first | exact q5.out | exact (q5.out.below (below_drewN (Below.refl _ _) _) (Nat.le_refl _)))).mono ?_; rintro e w1 ⟨v1, rfl, ho1, hb1⟩; obtain ⟨p1, cc1, rfl, -, -, -⟩ := owns_sp ho1; have hst1 := SC.next (w := w) (g := g) (kn := k.toNat) (v := v) (a := a) (b := b) (l := l) ⟨q1, q2, q3, q4, q5, q6⟩ (by first | exact hb1 | exact (Below.refl _ _).drew.trans hb1 | exact (below_drewN (Below.refl _ _) _).trans hb1); have u1 := hst1.1; have u2 := hst1.2.1; have u6 := hst1.2.2.2.2.2))
  all_goals go_end0
  all_goals exact ⟨rfl, _, w1, owns_base ho1 (by simp), u6, rfl⟩
end Go.Proofs.YtilahcnpjbnjiaaGreatDoor

/- A space in memory between two steps of a method. -/
namespace Go.Proofs.YtilahcnpjbnjiaaGreatDoor
set_option linter.unusedVariables false
set_option linter.unusedSimpArgs false
open Go.RowKit Go.Shelf Go.Proofs

def upd {α : Type} (F : Int → α) (k : Int) (x : α) : Int → α := fun j => if j = k then x else F j
theorem upd_same {α : Type} (F : Int → α) (k : Int) (x : α) : upd F k x k = x := by unfold upd; rw [if_pos rfl]
theorem upd_other {α : Type} (F : Int → α) {k j : Int} (x : α) (h : j ≠ k) : upd F k x j = F j := by unfold upd; rw [if_neg h]
def spcG (V : Int → Value) (a1 a2 : Sp.S) (vb : Value) : Array Value := #[V 0, V 1, V 2, .int .i64 0, .int .i64 0, .int .i64 a1.1, .int .i64 a1.2, .int .i64 a2.1, .int .i64 a2.2, vb]
structure SpcG (W : World) (g : Nat) (r : Option Nat) (F : Int → List Sp.S) (V : Int → Value) (a1 a2 : Sp.S) (L : List Sp.Bk) (vb : Value) : Prop where
  blk : Blk W g 96 (spcG V a1 a2 vb)
  left : ∀ k, 0 ≤ k → k ≤ 2 → SlF W g r (V k) (F k)
  own : W.ownsRow (g + 1) 99 4 vb L.length (flat encBk L)
  row : vb.ownBlock = r
theorem SpcG.of {W : World} {g : Nat} {r : Option Nat} {m : Sp.Spc} (h : SpcR W g r m) : ∃ V vb, SpcG W g r (Sp.leftR m) V m.a1 m.a2 m.L vb := by
  obtain ⟨v0, v1, v2, vb, h⟩ := h
  exact ⟨vAt v0 v1 v2, vb, h.1, fun k h0 h2 => h.left h0 h2, h.2.2.2.2.1, h.2.2.2.2.2⟩
theorem SpcG.spcV {W : World} {g : Nat} {r : Option Nat} {F : Int → List Sp.S} {V : Int → Value} {m : Sp.Spc} {vb : Value} (h : SpcG W g r F V m.a1 m.a2 m.L vb) (hF : ∀ k, 0 ≤ k → k ≤ 2 → F k = Sp.leftR m k) : SpcV W g r m (V 0) (V 1) (V 2) vb := by
  refine ⟨h.blk, ?_, ?_, ?_, h.own, h.row⟩
  · rw [← hF 0 (by omega) (by omega)]; exact h.left 0 (by omega) (by omega)
  · rw [← hF 1 (by omega) (by omega)]; exact h.left 1 (by omega) (by omega)
  · rw [← hF 2 (by omega) (by omega)]; exact h.left 2 (by omega) (by omega)
theorem SpcG.spcR {W : World} {g : Nat} {r : Option Nat} {F : Int → List Sp.S} {V : Int → Value} {m : Sp.Spc} {vb : Value} (h : SpcG W g r F V m.a1 m.a2 m.L vb) (hF : ∀ k, 0 ≤ k → k ≤ 2 → F k = Sp.leftR m k) : SpcR W g r m := ⟨_, _, _, _, h.spcV hF⟩
section
variable {W : World} {g : Nat} {r : Option Nat} {F : Int → List Sp.S} {V : Int → Value} {a1 a2 : Sp.S} {L : List Sp.Bk} {vb : Value}
theorem SpcG.lt (h : SpcG W g r F V a1 a2 L vb) : g < W.heap.size := h.blk.lt
theorem SpcG.rowlt (h : SpcG W g r F V a1 a2 L vb) : ∀ b, r = some b → g + 1 ≤ b ∧ b < W.heap.size := fun b hb => h.own.lt b (h.row.trans hb)
theorem SpcG.below (h : SpcG W g r F V a1 a2 L vb) {W' : World} (hb : Below W.heap.size W W') : SpcG W' g r F V a1 a2 L vb :=
  ⟨h.blk.below hb h.blk.lt, fun k h0 h2 => (h.left k h0 h2).below hb, owns_below h.own hb (Nat.le_refl _), h.row⟩
theorem SpcG.cell (h : SpcG W g r F V a1 a2 L vb) {k : Int} (h0 : 0 ≤ k) (h2 : k ≤ 2) : W.cell? ⟨g, k.toNat, none⟩ = some (V k) := by
  have : k = 0 ∨ k = 1 ∨ k = 2 := by omega
  rcases this with rfl | rfl | rfl
  · exact h.blk.cell 0
  · exact h.blk.cell 1
  · exact h.blk.cell 2
theorem grown_set (W : World) (g i : Nat) (v : Value) : W.grownBy (W.setCell ⟨g, i, none⟩ v) (some g) :=
  have h := (Below.refl 0 W).setCell (Nat.zero_le _) v (p := ⟨g, i, none⟩)
  ⟨h.os, h.tape, h.output, h.size, fun k _ hg => Below.heap_setCell W _ v k (fun e => hg (by rw [e]))⟩
theorem SlF.set {W : World} {g : Nat} {r : Option Nat} {v : Value} {l : List Sp.S} (h : SlF W g r v l) (i : Nat) (u : Value) : SlF (W.setCell ⟨g, i, none⟩ u) g r v l := ⟨(Frm.setCell g r W i u).slr h.1 h.2, h.2⟩
theorem SpcG.own_set (h : SpcG W g r F V a1 a2 L vb) (i : Nat) (u : Value) : (W.setCell ⟨g, i, none⟩ u).ownsRow (g + 1) 99 4 vb L.length (flat encBk L) :=
  h.own.kept (grown_set W g i u) (Or.inr fun e => by have := h.rowlt g (by rw [← h.row, e]); omega)
/-- one slice of an area is another one -/
theorem SpcG.put (h : SpcG W g r F V a1 a2 L vb) {k : Int} (h0 : 0 ≤ k) (h2 : k ≤ 2) {l : List Sp.S} {W0 : World} {v : Value} (ho : W.ownsRow W0.heap.size 35 2 v l.length (flat encSp l)) (hg : g < W0.heap.size) (hr : ∀ b, r = some b → b < W0.heap.size) :
    SpcG (W.setCell ⟨g, k.toNat, none⟩ v) g r (upd F k l) (upd V k v) a1 a2 L vb := by
  refine ⟨?_, fun j j0 j2 => ?_, h.own_set _ _, h.row⟩
  · have hb := h.blk.set k.toNat v
    have e : (spcG V a1 a2 vb).setIfInBounds k.toNat v = spcG (upd V k v) a1 a2 vb := by
      have : k = 0 ∨ k = 1 ∨ k = 2 := by omega
      rcases this with rfl | rfl | rfl <;> rfl
    rw [e] at hb
    exact hb
  · by_cases hjk : j = k
    · subst hjk
      rw [upd_same, upd_same]
      refine (SlF.set ⟨SlR.of_owns encSp_len ho, fun b hb => ?_⟩ _ _)
      have := (ho.lt b hb).1
      exact ⟨by omega, fun e => by have := hr b e.symm; omega⟩
    · rw [upd_other F l hjk, upd_other V v hjk]
      exact (h.left j j0 j2).set _ _
/-- an area is laid -/
theorem SpcG.lay (h : SpcG W g r F V a1 a2 L vb) {k : Int} (hk : k = 1 ∨ k = 2) (x y : Int) :
    SpcG ((W.setCell ⟨g, 3 + k.toNat * 2, none⟩ (.int .i64 x)).setCell ⟨g, 3 + k.toNat * 2 + 1, none⟩ (.int .i64 y)) g r F V (if k = 1 then (x, y) else a1) (if k = 1 then a2 else (x, y)) L vb := by
  have hs := h.own_set (3 + k.toNat * 2) (.int .i64 x)
  refine ⟨?_, fun j j0 j2 => ((h.left j j0 j2).set _ _).set _ _, ?_, h.row⟩
  · have hb := (h.blk.set (3 + k.toNat * 2) (.int .i64 x)).set (3 + k.toNat * 2 + 1) (.int .i64 y)
    rcases hk with rfl | rfl
    · exact hb
    · exact hb
  · exact hs.kept (grown_set _ g _ _) (Or.inr fun e => by have := h.rowlt g (by rw [← h.row, e]); omega)
/-- the blocks lie in another row -/
theorem SpcG.blocks (h : SpcG W g r F V a1 a2 L vb) {W1 : World} {L' : List Sp.Bk} {vb' : Value} (ho : W1.ownsRow (g + 1) 99 4 vb' L'.length (flat encBk L')) (hgr : W.grownBy W1 vb.ownBlock) (hn : vb'.ownBlock = vb.ownBlock ∨ vb'.ownBlock = some W.heap.size) :
    SpcG (W1.setCell ⟨g, 9, none⟩ vb') g vb'.ownBlock F V a1 a2 L' vb' := by
  have hgr' : vb.ownBlock = r := h.row
  have hgb : some g ≠ vb.ownBlock := fun e => by have := h.rowlt g (by rw [← h.row, ← e]); omega
  have hb1 : Blk W1 g 96 (spcG V a1 a2 vb) := (hgr.block g h.blk.lt hgb).trans h.blk
  refine ⟨hb1.set 9 vb', fun j j0 j2 => ?_, ?_, rfl⟩
  · obtain ⟨s1, s2⟩ := h.left j j0 j2
    have hF : Frm g r W W1 := ⟨hgr.os, hgr.tape, hgr.output, hgr.size, fun k hk _ hr => hgr.block k hk (by rw [hgr']; exact hr)⟩
    have s3 := hF.slr s1 s2
    have hd : ∀ b, (V j).ownBlock = some b → b ≠ g ∧ some b ≠ vb'.ownBlock := fun b hb => ⟨(s2 b hb).1, fun e => by
      rcases hn with hn | hn
      · rw [hn, hgr'] at e; exact (s2 b hb).2 e
      · rw [hn] at e
        have e2 : b = W.heap.size := Option.some.inj e
        obtain ⟨p, cap, hv, _, _, hR⟩ := s1
        rw [hv] at hb
        cases p with
        | none => cases hb
        | some a =>
          have h3 : a.block = b := Option.some.inj hb
          have := hR.lt
          omega⟩
    exact ⟨(Frm.setCell g vb'.ownBlock W1 9 vb').slr s3 hd, hd⟩
  · exact ho.kept (grown_set W1 g 9 vb') (Or.inr fun e => by have := (ho.lt g e).1; omega)
end
end Go.Proofs.YtilahcnpjbnjiaaGreatDoor

/- The space package: New, put. -/
namespace Go.Proofs.YtilahcnpjbnjiaaGreatDoor
set_option linter.unusedVariables false
set_option linter.unusedSimpArgs false
open Go.RowKit Go.Shelf Go.Proofs

/-- a new space -/
def RetNew (w : World) (e : Ending) (w' : World) : Prop := ∃ g, e = .returned (.pointer (some ⟨g, 0, none⟩)) ∧ w.heap.size ≤ g ∧ SpcR w' g none Sp.spc0 ∧ Below w.heap.size w w'
theorem add_whole : Sp.add [] (16, 1048575) = [(16, 1048575)] := by decide
set_option maxRecDepth 100000 in
set_option maxHeartbeats 1000000 in
theorem spc_New (w : World) : Calls Tryz.prog 30 #[] w (RetNew w) := by
  obtain ⟨g, hg⟩ : ∃ g, g = w.heap.size := ⟨_, rfl⟩
  have hblk : Blk (w.alloc (.cells (spcG (fun _ => .slice none 0 0) (0, 0) (0, 0) (.slice none 0 0)) 96)) w.heap.size 96 (spcG (fun _ => .slice none 0 0) (0, 0) (0, 0) (.slice none 0 0)) := Blk.new _ _ _
  have hG : SpcG (w.alloc (.cells (spcG (fun _ => .slice none 0 0) (0, 0) (0, 0) (.slice none 0 0)) 96)) w.heap.size none (fun _ => []) (fun _ => .slice none 0 0) (0, 0) (0, 0) [] (.slice none 0 0) :=
    ⟨hblk, fun k _ _ => ⟨slr_nil _, fun b hb => by cases hb⟩, World.ownsRow_nil _ _ _ _, rfl⟩
  have HC := Lib.hid (free_add w.heap.size 0 (by omega) (by omega) (.slice none 0 0) [] 16 1048575 _ (hG.cell (by omega) (by omega)) (hblk.frozen' 0) (slr_nil _) (by simp))
  have HG := Lib.hid hG
  have HB := Lib.hid (belowA w (.cells (spcG (fun _ => .slice none 0 0) (0, 0) (0, 0) (.slice none 0 0)) 96))
  clear hG hblk
  simp only [spcG] at HC HG HB
  go_enter Tryz.func30, Tryz.ntmps30
  go_wp2_with fail
  refine HC.out.mono ?_
  rintro e w1 ⟨rfl, v, W1, ho, hb, hw1⟩
  rw [add_whole] at ho
  have HW := Lib.hid hw1
  have HO := Lib.hid (And.intro ho hb)
  clear hw1 ho hb
  go_wp2_with fail
  go_ret
  have hlt : w.heap.size < (w.alloc (.cells (spcG (fun _ => .slice none 0 0) (0, 0) (0, 0) (.slice none 0 0)) 96)).heap.size := by simp
  have hG1 := (HG.out.below HO.out.2).put (k := 0) (by omega) (by omega) HO.out.1 hlt (fun b hb => by cases hb)
  rw [← HW.out] at hG1
  refine ⟨_, rfl, Nat.le_refl _, hG1.spcR (m := Sp.spc0) fun k h0 h2 => ?_, ?_⟩
  · have : k = 0 ∨ k = 1 ∨ k = 2 := by omega
    rcases this with rfl | rfl | rfl <;> rfl
  · rw [HW.out]
    exact (HB.out.trans (HO.out.2.mono (by simp))).setCell (Nat.le_refl _) _

/-- the areas' slices are those that were there, or new ones -/
def Old (g : Nat) (W w' : World) : Prop := ∀ k : Nat, k ≤ 2 → ∀ a n c, w'.cell? ⟨g, k, none⟩ = some (.slice (some a) n c) → W.heap.size ≤ a.block ∨ ∃ j a' n' c', j ≤ 2 ∧ W.cell? ⟨g, j, none⟩ = some (.slice (some a') n' c') ∧ a'.block = a.block
theorem Old.of_below {g : Nat} {W w' : World} (hg : g < W.heap.size) (hb : Below W.heap.size W w') : Old g W w' := fun k hk a n c h =>
  Or.inr ⟨k, a, n, c, hk, by rw [← hb.cell (p := ⟨g, k, none⟩) hg]; exact h, rfl⟩
theorem Old.trans {g : Nat} {W W1 W2 : World} (h : Old g W W1) (k : Old g W1 W2) (hs : W.heap.size ≤ W1.heap.size) : Old g W W2 := fun j hj a n c hc => by
  rcases k j hj a n c hc with h1 | ⟨j', a', n', c', hj', h1, h2⟩
  · exact Or.inl (Nat.le_trans hs h1)
  · rw [← h2]; exact h j' hj' a' n' c' h1
/-- what a method on a space leaves -/
def Left (g : Nat) (r : Option Nat) (m' : Sp.Spc) (W w' : World) : Prop := ∃ r', SpcR w' g r' m' ∧ NewRow W r r' ∧ Frm g r W w' ∧ Old g W w'
theorem Left.same {g : Nat} {r : Option Nat} {m : Sp.Spc} {W w' : World} (h : SpcR W g r m) (hb : Below W.heap.size W w') : Left g r m W w' := ⟨r, h.below hb, NewRow.refl _ _, Frm.of_below hb, Old.of_below h.lt hb⟩
/-- a cell of another block turns -/
theorem SpcR.other {W : World} {g : Nat} {r : Option Nat} {m : Sp.Spc} (h : SpcR W g r m) (b0 i : Nat) (v : Value) (h1 : b0 ≠ g) (h2 : some b0 ≠ r) (h3 : ∀ k : Nat, k ≤ 2 → ∀ a n c, W.cell? ⟨g, k, none⟩ = some (.slice (some a) n c) → a.block ≠ b0) : SpcR (W.setCell ⟨b0, i, none⟩ v) g r m := by
  obtain ⟨v0, v1, v2, vb, k1, k2, k3, k4, k5, k6⟩ := h
  have key : ∀ (x : Value) (l : List Sp.S) (k : Nat), k ≤ 2 → W.cell? ⟨g, k, none⟩ = some x → SlF W g r x l → SlF (W.setCell ⟨b0, i, none⟩ v) g r x l := fun x l k hk hc hx => by
    refine ⟨(Frm.setCell b0 none W i v).slr hx.1 fun b hb => ⟨fun e => ?_, by simp⟩, hx.2⟩
    obtain ⟨p, cap, hv, _⟩ := hx.1
    rw [hv] at hb hc
    cases p with
    | none => cases hb
    | some a =>
      have hab : a.block = b := Option.some.inj hb
      exact h3 k hk a _ _ hc (by omega)
  refine ⟨v0, v1, v2, vb, k1.other _ _ (Ne.symm h1), key v0 _ 0 (by omega) (k1.cell 0) k2, key v1 _ 1 (by omega) (k1.cell 1) k3, key v2 _ 2 (by omega) (k1.cell 2) k4, k5.kept (grown_set W b0 i v) (Or.inr fun e => h2 (e.symm.trans k6)), k6⟩
theorem insB_at (b : Sp.Bk) (L : List Sp.Bk) : Sp.insB b L = L.take (ahead b L) ++ b :: L.drop (ahead b L) := by
  have h := List.takeWhile_append_dropWhile (p := fun c : Sp.Bk => decide (c.sp.1 < b.sp.1)) (l := L)
  unfold Sp.insB ahead
  generalize L.takeWhile (fun c : Sp.Bk => decide (c.sp.1 < b.sp.1)) = A at h ⊢
  generalize L.dropWhile (fun c : Sp.Bk => decide (c.sp.1 < b.sp.1)) = B at h ⊢
  rw [← h, List.take_left' rfl, List.drop_left' rfl]
theorem srt_first {m : Sp.Spc} (h : Sp.WF m) : m.L.Pairwise (fun a b => a.sp.1 < b.sp.1) := by
  refine (List.pairwise_iff_forall_sublist.2 ?_)
  intro a b hs
  have h1 := List.pairwise_iff_forall_sublist.1 h.srt hs
  have h2 := Sp.owns_iff.1 (h.ok a (hs.subset (by simp))).1
  omega
/-- put, between two calls -/
structure PU (w W : World) (g : Nat) (r : Option Nat) (F : Int → List Sp.S) (V : Int → Value) (a1 a2 : Sp.S) (L : List Sp.Bk) (vb : Value) (b : Sp.Bk) : Prop where
  G : SpcG W g r F V a1 a2 L vb
  box : Blk W w.heap.size 99 (encBk b).toArray
  frm : Frm g r w W
section
variable {w W : World} {g : Nat} {r : Option Nat} {F : Int → List Sp.S} {V : Int → Value} {a1 a2 : Sp.S} {L : List Sp.Bk} {vb : Value} {b : Sp.Bk}
theorem PU.next (h : PU w W g r F V a1 a2 L vb b) {W' : World} (hb : Below W.heap.size W W') : PU w W' g r F V a1 a2 L vb b :=
  ⟨h.G.below hb, h.box.below hb h.box.lt, h.frm.trans (Frm.of_below hb) (NewRow.refl _ _)⟩
theorem PU.drewN (h : PU w W g r F V a1 a2 L vb b) (n : Nat) : PU w (W.drewN n) g r F V a1 a2 L vb b := h.next (below_drewN (Below.refl _ _) n)
theorem PU.init (h : SpcG w g r F V a1 a2 L vb) : PU w (w.alloc (.cells (encBk b).toArray 99)) g r F V a1 a2 L vb b :=
  ⟨h.below (belowA w _), Blk.new _ _ _, Frm.of_below (belowA w _)⟩
theorem PU.drew (h : PU w W g r F V a1 a2 L vb b) : PU w W.drew g r F V a1 a2 L vb b := h.next (Below.refl _ _).drew
theorem PU.cut (h : PU w W g r F V a1 a2 L vb b) {k : Int} (h0 : 0 ≤ k) (h2 : k ≤ 2) {l : List Sp.S} {W1 : World} {v : Value} (ho : W1.ownsRow W.heap.size 35 2 v l.length (flat encSp l)) (hb : Below W.heap.size W W1) (hg : g < w.heap.size) :
    PU w (W1.setCell ⟨g, k.toNat, none⟩ v) g r (upd F k l) (upd V k v) a1 a2 L vb b := by
  have hn := h.next hb
  refine ⟨hn.G.put h0 h2 ho (Nat.lt_of_lt_of_le hg h.frm.size) (fun b hb => (h.G.rowlt b hb).2), hn.box.other _ _ (show w.heap.size ≠ g by omega), hn.frm.trans (Frm.setCell g r W1 _ _) (NewRow.refl _ _)⟩
end
/-- the cells that put reads -/
abbrev SPU (w : World) (g : Nat) (r : Option Nat) (F : Int → List Sp.S) (V : Int → Value) (a1 a2 : Sp.S) (L : List Sp.Bk) (vb : Value) (b : Sp.Bk) (W : World) : Prop :=
  W.cell? ⟨w.heap.size, 0, none⟩ = some (.int .i64 b.sp.1) ∧ W.cell? ⟨w.heap.size, 1, none⟩ = some (.int .i64 b.sp.2) ∧ W.cell? ⟨w.heap.size, 2, none⟩ = some (.int .i64 b.owner) ∧ W.cell? ⟨w.heap.size, 3, none⟩ = some (.int .i64 b.area) ∧ W.cell? ⟨g, 9, none⟩ = some vb ∧ PU w W g r F V a1 a2 L vb b
theorem PU.spu {w W : World} {g : Nat} {r : Option Nat} {F : Int → List Sp.S} {V : Int → Value} {a1 a2 : Sp.S} {L : List Sp.Bk} {vb : Value} {b : Sp.Bk} (h : PU w W g r F V a1 a2 L vb b) : SPU w g r F V a1 a2 L vb b W :=
  ⟨h.box.cell 0, h.box.cell 1, h.box.cell 2, h.box.cell 3, h.G.blk.cell 9, h⟩
abbrev SBX (w : World) (b : Sp.Bk) (W : World) : Prop :=
  W.cell? ⟨w.heap.size, 0, none⟩ = some (.int .i64 b.sp.1) ∧ W.cell? ⟨w.heap.size, 1, none⟩ = some (.int .i64 b.sp.2) ∧ W.cell? ⟨w.heap.size, 2, none⟩ = some (.int .i64 b.owner) ∧ W.cell? ⟨w.heap.size, 3, none⟩ = some (.int .i64 b.area)
theorem PU.sbx {w W : World} {g : Nat} {r : Option Nat} {F : Int → List Sp.S} {V : Int → Value} {a1 a2 : Sp.S} {L : List Sp.Bk} {vb : Value} {b : Sp.Bk} (h : PU w W g r F V a1 a2 L vb b) : SBX w b W := ⟨h.box.cell 0, h.box.cell 1, h.box.cell 2, h.box.cell 3⟩
set_option maxRecDepth 100000 in
set_option maxHeartbeats 4000000 in
theorem spc_put (g : Nat) (r : Option Nat) (m : Sp.Spc) (hm : Sp.WF m) (hl : m.L.length ≤ 1000) (s : Sp.S) (o k : Int) (h0 : 0 ≤ k) (h2 : k ≤ 2) (ho : 1 ≤ o) (hs : Sp.has (Sp.leftR m k) s = true) (w : World) (h : SpcR w g r m) :
    Calls Tryz.prog 61 #[.pointer (some ⟨g, 0, none⟩), .agg (encBk ⟨s, o, k⟩).toArray] w fun e w' => e = .returned (.tuple #[]) ∧ Left g r (Sp.putR m ⟨s, o, k⟩) w w' := by
  obtain ⟨a, b⟩ := s
  obtain ⟨V, vb, hG⟩ := SpcG.of h
  have hVc : ∀ j : Int, 0 ≤ j → j ≤ 2 → w.cell? ⟨g, j.toNat, none⟩ = some (V j) := fun j j0 j2 => hG.cell j0 j2
  have HVC := Lib.hid hVc
  clear hVc
  have hgl := h.lt
  have P0 := Lib.hid (PU.init (b := ⟨(a, b), o, k⟩) hG)
  obtain ⟨pk1, pk2, pk3⟩ := Sp.put_ok hm h0 h2 ho hs
  have hll := Sp.left_len hm k
  have FC := Lib.hid fun (W : World) (hP : PU w W g r (Sp.leftR m) V m.a1 m.a2 m.L vb ⟨(a, b), o, k⟩) => free_cut g k h0 h2 (V k) (Sp.leftR m k) a b W (hP.G.cell h0 h2) (hP.G.blk.frozen' _) (hP.G.left k h0 h2).1 (by omega)
  have hsrt := srt_first hm
  have d0 := fun W (hP : PU w W g r (Sp.leftR m) V m.a1 m.a2 m.L vb ⟨(a, b), o, k⟩) => hP.box
  clear h hG
  have HG := Lib.hid hgl
  simp only [encBk] at P0
  go_enter Tryz.func61, Tryz.ntmps61
  simp only [encBk]
  go_wp2_with fail
  generalize w.alloc (.cells #[.int .i64 a, .int .i64 b, .int .i64 o, .int .i64 k] 99) = W0 at P0 ⊢
  have hst0 := P0.out
  go_region_held3 (fun W => SBX w ⟨(a, b), o, k⟩ W)
    (first
      | exact PU.sbx (by assumption)
      | (go_split_ands; exact PU.sbx (by assumption))
      | (go_split_ands; exact PU.sbx (PU.drew (by assumption))))
    (first
      | (go_at_call 56; refine (FC.out _ (by first | exact P0.out.drew | exact P0.out)).mono ?_; rintro e w1 ⟨rfl, v1, W1, ho1, hb1, hw1⟩; have P2 := (by first | exact PU.cut (k := k) (l := Sp.cut (Sp.leftR m k) (a, b)) P0.out.drew h0 h2 ho1 hb1 hgl | exact PU.cut (k := k) (l := Sp.cut (Sp.leftR m k) (a, b)) P0.out h0 h2 ho1 hb1 hgl); rw [← hw1] at P2; clear hw1))
  have P2 := Lib.hid P2
  have hv1 : ∀ a n c, v1 = .slice (some a) n c → w.heap.size ≤ a.block := fun a n c e => by
    have h1 := (ho1.lt a.block (by rw [e]; rfl)).1
    have h2 := P0.out.frm.size
    simp at h1
    omega
  have HV1 := Lib.hid hv1
  clear ho1 hb1 hst0 P0 FC hv1
  have hmL : m.L.length ≤ 1000000 := by omega
  have SE := Lib.hid fun (W : World) (h : SlR W 4 encBk vb m.L) => search_bk m.L hmL ⟨(a, b), o, k⟩ vb W h hsrt
  have IN := Lib.hid fun (x : Nat) (W : World) (ho : W.ownsRow (g + 1) 99 4 vb m.L.length (flat encBk m.L)) hx hxv hb => insert_bk (g + 1) x vb m.L (ahead ⟨(a, b), o, k⟩ m.L) ⟨(a, b), o, k⟩ W ho hx hxv hb (ahead_le _ _) hmL
  simp only [encBk] at SE IN
  generalize hp : ahead ⟨(a, b), o, k⟩ m.L = p at SE IN
  have hpl : p ≤ m.L.length := by rw [← hp]; exact ahead_le _ _
  have HPA := Lib.hid hp
  clear hp hsrt
  go_wp2_with fail
  have hst := P2.out
  go_region_held3 (fun W => SPU w g r (upd (Sp.leftR m) k (Sp.cut (Sp.leftR m k) (a, b))) (upd V k v1) m.a1 m.a2 m.L vb ⟨(a, b), o, k⟩ W)
    (first
      | exact PU.spu (by assumption)
      | (go_split_ands; exact PU.spu (by assumption))
      | (go_split_ands; exact PU.spu (PU.drew (by assumption))))
    (first
      | (go_at_call 83; go_split_ands; refine (SE.out _ (SlR.of_owns encBk_len (PU.G (by assumption)).own)).mono ?_; rintro e w2 ⟨bl, rfl, hb2⟩; have hst2 := PU.next (w := w) (g := g) (r := r) (F := upd (Sp.leftR m) k (Sp.cut (Sp.leftR m k) (a, b))) (V := upd V k v1) (a1 := m.a1) (a2 := m.a2) (L := m.L) (vb := vb) (b := ⟨(a, b), o, k⟩) (by assumption) hb2))
  have P3 := Lib.hid hst2
  clear hst hst2 hb2 P2 SE
  go_wp2_with fail
  have f9 : w2.cell? ⟨g, 9, none⟩ = some vb := P3.out.G.blk.cell 9
  have e0 := P3.out.box.cell 0
  have e1 := P3.out.box.cell 1
  have e2 := P3.out.box.cell 2
  have e3 := P3.out.box.cell 3
  simp only [encBk, List.getElem?_toArray, List.getElem?_cons_zero, List.getElem?_cons_succ] at e0 e1 e2 e3
  have hz2 := P3.out.box.lt
  have hg2 := P3.out.G.lt
  have hrow := fun x => P3.out.G.rowlt x
  have hrv := P3.out.G.row
  have HRV := Lib.hid hrv
  clear hrv
  go_region_with ((go_at_call 86; have hbx : Below w2.heap.size w2 _ := (by first | exact (belowA w2 (.cells #[.int .i64 a, .int .i64 b, .int .i64 o, .int .i64 k] 99)).drew | exact (Below.refl _ w2).drew.trans ((belowA w2.drew (.cells #[.int .i64 a, .int .i64 b, .int .i64 o, .int .i64 k] 99)).mono (Nat.le_refl _))); have hN := PU.next P3.out hbx; refine (IN.out w2.heap.size _ hN.G.own (by first | exact (Blk.new w2 _ _).drew | exact Blk.new w2.drew _ _) (fun e => by have := hrow _ (HRV.out.symm.trans e); omega) (by simp; omega)).mono ?_; rintro e w4 ⟨vn, rfl, ho4, hg4, hn4⟩; obtain ⟨pp, cc, hvn, -⟩ := SlR.of_owns (enc := encBk) (xs := m.L.take p ++ ⟨(a, b), o, k⟩ :: m.L.drop p) encBk_len (by rw [show (m.L.take p ++ (⟨(a, b), o, k⟩ : Sp.Bk) :: m.L.drop p).length = m.L.length + 1 by simp; omega]; exact ho4); rw [show (m.L.take p ++ (⟨(a, b), o, k⟩ : Sp.Bk) :: m.L.drop p).length = m.L.length + 1 by simp; omega] at hvn; subst hvn; have hB4 : Blk w4 g 96 _ := (hg4.block g hN.G.blk.lt (fun e => by have := hrow g (HRV.out.symm.trans e.symm); omega)).trans hN.G.blk; have u1 := hB4.cell 9; have u2 := hB4.frozen' 9))
  all_goals go_wp2_with fail
  all_goals go_end0
  all_goals
    have eL : Sp.insB ⟨(a, b), o, k⟩ m.L = m.L.take p ++ ⟨(a, b), o, k⟩ :: m.L.drop p := by rw [insB_at, HPA.out]
    have eN : (m.L.take p ++ (⟨(a, b), o, k⟩ : Sp.Bk) :: m.L.drop p).length = m.L.length + 1 := by simp; omega
    have G5 := hN.G.blocks (L' := m.L.take p ++ ⟨(a, b), o, k⟩ :: m.L.drop p) (by rw [eN]; exact ho4) hg4 hn4
    rw [← eL] at G5
    refine ⟨rfl, _, SpcG.spcR (m := Sp.putR m ⟨(a, b), o, k⟩) G5 fun j j0 j2 => ?_, ?_, ?_, ?_⟩
    · by_cases hjk : j = k
      · subst hjk; rw [upd_same]; exact pk2.symm
      · rw [upd_other _ _ hjk]; exact (pk3 j j0 j2 hjk).symm
    · rcases hn4 with h | h
      · exact Or.inl (h.trans HRV.out)
      · exact Or.inr ⟨_, h, hN.frm.size⟩
    · have hF : Frm g r _ w4 := ⟨hg4.os, hg4.tape, hg4.output, hg4.size, fun x hx _ hr => hg4.block x hx (by rw [HRV.out]; exact hr)⟩
      exact (hN.frm.trans hF (NewRow.refl _ _)).trans (Frm.setCell g r w4 9 _) (NewRow.refl _ _)
    · intro j hj q n c hc
      have hcj := G5.cell (k := (j : Int)) (by omega) (by omega)
      rw [Int.toNat_natCast, hc] at hcj
      by_cases hjk : (j : Int) = k
      · rw [hjk, upd_same] at hcj
        exact Or.inl (HV1.out q n c (Option.some.inj hcj).symm)
      · rw [upd_other _ _ hjk] at hcj
        refine Or.inr ⟨j, q, n, c, hj, ?_, rfl⟩
        have := HVC.out j (by omega) (by omega)
        rw [Int.toNat_natCast, ← Option.some.inj hcj] at this
        exact this
end Go.Proofs.YtilahcnpjbnjiaaGreatDoor
