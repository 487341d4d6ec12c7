/- The space package: owns, is, Area, Index, Left, Blocks, in, cut, add. -/
import Derived.Test.YtbeombmblifohaaSpcIn
namespace Go.Proofs.Ytbeombmblifohaa
set_option linter.unusedVariables false
set_option linter.unusedSimpArgs false
open Go.RowKit Go.Shelf Go.Proofs

theorem spc_owns (a b : Int) (w : World) :
    Calls Try.prog 46 #[.agg #[.int .i64 a, .int .i64 b]] w fun e w' => e = .returned (.bool (Sp.owns (a, b))) ∧ Below w.heap.size w w' := by
  have hr : Hid (Sp.owns (a, b) = (decide (16 ≤ a) && decide (a ≤ b) && decide (b ≤ 1048575))) := Lib.hid rfl
  rw [hr.out]
  by_cases c1 : 16 ≤ a <;> by_cases c2 : a ≤ b <;> by_cases c3 : b ≤ 1048575
  all_goals try (exfalso; omega)
  all_goals
    simp only [c1, c2, c3, decide_true, decide_false, Bool.and_true, Bool.and_false, Bool.false_and, Bool.true_and]
    first | (have e1 : decide (16 ≤ a) = true := by simpa using c1) | (have e1 : decide (16 ≤ a) = false := by simpa using c1)
    first | (have e2 : decide (a ≤ b) = true := by simpa using c2) | (have e2 : decide (a ≤ b) = false := by simpa using c2)
    first | (have e3 : decide (b ≤ 1048575) = true := by simpa using c3) | (have e3 : decide (b ≤ 1048575) = false := by simpa using c3)
    go_enter Try.func46, Try.ntmps46
    go_wp2
    go_ret
    exact ⟨rfl, (Below.refl _ _).alloc (Nat.le_refl _) _⟩
theorem spc_is (g : Nat) (k : Int) (w : World) :
    Calls Try.prog 37 #[.pointer (some ⟨g, 0, none⟩), .int .i64 k] w fun e w' => e = .returned (.bool (decide (0 < k) && decide (k < 3))) ∧ w' = w := by
  by_cases c1 : 0 < k <;> by_cases c2 : k < 3
  all_goals
    simp only [c1, c2, decide_true, decide_false, Bool.and_true, Bool.and_false, Bool.false_and, Bool.true_and]
    first | (have e1 : decide (0 < k) = true := by simpa using c1) | (have e1 : decide (0 < k) = false := by simpa using c1)
    first | (have e2 : decide (k < 3) = true := by simpa using c2) | (have e2 : decide (k < 3) = false := by simpa using c2)
    go_enter Try.func37, Try.ntmps37
    go_wp2
    go_ret
    exact ⟨rfl, rfl⟩
/-- a span and whether there is one come back -/
def RetSB (r : Sp.S × Bool) (w : World) (e : Ending) (w' : World) : Prop := e = .returned (.tuple #[.agg #[.int .i64 r.1.1, .int .i64 r.1.2], .bool r.2]) ∧ Below w.heap.size w w'
set_option maxHeartbeats 1000000 in
theorem spc_Area (g : Nat) (k : Int) (v0 v1 v2 vb : Value) (m : Sp.Spc) (hm : Sp.WF m) (w : World) (h : Blk w g 67 (spcA v0 v1 v2 m vb)) :
    Calls Try.prog 16 #[.pointer (some ⟨g, 0, none⟩), .int .i64 k] w (RetSB (Sp.areaR m k) w) := by
  have IS := Lib.hid fun W => spc_is g k W
  have hz := hm.at_pos k
  by_cases hk : k < 1 ∨ 2 < k
  · have hr : Sp.areaR m k = ((0, 0), false) := by unfold Sp.areaR; rw [if_pos (by omega)]
    rw [hr]
    have e : (decide (0 < k) && decide (k < 3)) = false := by simp; omega
    rw [e] at IS
    clear e hr hz
    go_enter Try.func16, Try.ntmps16
    go_wp2_with fail
    refine (IS.out _).mono ?_
    rintro e w1 ⟨rfl, hw1⟩
    subst hw1
    go_wp2_with fail
    exact bodyPost_ret (v := .tuple #[.agg #[.int .i64 0, .int .i64 0], .bool false]) (by simp [results, Try.results16, go_sem]) rfl ⟨rfl, (Below.refl _ _).alloc (Nat.le_refl _) _⟩
  · have e : (decide (0 < k) && decide (k < 3)) = true := by simp; omega
    rw [e] at IS
    clear e
    have hgl := h.lt
    have hk12 : k = 1 ∨ k = 2 := by omega
    have hat : (if (m.at k).1 = 0 then Sp.areaR m k = ((0, 0), false) else Sp.areaR m k = (m.at k, true)) := by
      split
      · unfold Sp.areaR; rw [if_pos (by omega)]
      · unfold Sp.areaR; rw [if_neg (by omega)]
    obtain ⟨x, y, hxy⟩ : ∃ x y : Int, m.at k = (x, y) := ⟨_, _, rfl⟩
    rw [hxy] at hat hz
    simp only at hat hz
    have hcx : ∀ o, (w.alloc o).cell? ⟨g, 3 + k.toNat * 2, none⟩ = some (.int .i64 x) := fun o => by
      rw [(h.alloc o).cell]
      rcases hk12 with rfl | rfl
      · have : m.a1 = (x, y) := hxy
        simp [spcA, this]
      · have : m.a2 = (x, y) := hxy
        simp [spcA, this]
    have hcy : ∀ o, (w.alloc o).cell? ⟨g, 3 + k.toNat * 2 + 1, none⟩ = some (.int .i64 y) := fun o => by
      rw [(h.alloc o).cell]
      rcases hk12 with rfl | rfl
      · have : m.a1 = (x, y) := hxy
        simp [spcA, this]
      · have : m.a2 = (x, y) := hxy
        simp [spcA, this]
    have hk0 : 0 ≤ k := by omega
    have hk3 : k < 3 := by omega
    clear hxy h hk
    by_cases hx : x = 0
    · have hxy := hz.1 hx
      rw [if_pos hx] at hat
      rw [hat]
      cases hxy
      clear hat hz hx
      go_enter Try.func16, Try.ntmps16
      go_wp2_with fail
      refine (IS.out _).mono ?_
      rintro e w1 ⟨rfl, hw1⟩
      subst hw1
      go_wp2_with fail
      exact bodyPost_ret (v := .tuple #[.agg #[.int .i64 0, .int .i64 0], .bool false]) (by simp [results, Try.results16, go_sem]) rfl ⟨rfl, (Below.refl _ _).alloc (Nat.le_refl _) _⟩
    · rw [if_neg hx] at hat
      rw [hat]
      clear hat hz
      go_enter Try.func16, Try.ntmps16
      go_wp2_with fail
      refine (IS.out _).mono ?_
      rintro e w1 ⟨rfl, hw1⟩
      subst hw1
      go_wp2_with fail
      exact bodyPost_ret (v := .tuple #[.agg #[.int .i64 x, .int .i64 y], .bool true]) (by simp [results, Try.results16, go_sem]) rfl ⟨rfl, (Below.refl _ _).alloc (Nat.le_refl _) _⟩
/-- an int and whether there is one come back -/
def RetIB (r : Int × Bool) (w : World) (e : Ending) (w' : World) : Prop := e = .returned (.tuple #[.int .i64 r.1, .bool r.2]) ∧ Below w.heap.size w w'
set_option maxHeartbeats 1000000 in
theorem spc_Index (g : Nat) (n : Int) (v0 v1 v2 vb : Value) (m : Sp.Spc) (hm : Sp.WF m) (w : World) (h : Blk w g 67 (spcA v0 v1 v2 m vb)) :
    Calls Try.prog 12 #[.pointer (some ⟨g, 0, none⟩), .int .i64 n] w (RetIB (Sp.indexR m n) w) := by
  have AR := spc_Area g 1 v0 v1 v2 vb m hm w h
  have hbd : (m.a1.1 = 0) ∨ (16 ≤ m.a1.1 ∧ m.a1.1 ≤ m.a1.2 ∧ m.a1.2 ≤ 1048575) := by
    rcases hm.w1 with e | e
    · left; rw [e]
    · right; exact Sp.owns_iff.1 e
  have har : Sp.areaR m 1 = if m.a1.1 = 0 then ((0, 0), false) else (m.a1, true) := by
    unfold Sp.areaR
    have : m.at 1 = m.a1 := rfl
    rw [this]
    by_cases hz : m.a1.1 = 0
    · rw [if_pos (by omega), if_pos hz]
    · rw [if_neg (by omega), if_neg hz]
  rw [har] at AR
  have hI : Sp.indexR m n = if m.a1.1 = 0 ∨ n < 0 ∨ m.a1.2 - m.a1.1 < n then (0, false) else (m.a1.1 + n, true) := rfl
  rw [hI]
  generalize m.a1 = s at *
  obtain ⟨x, y⟩ := s
  simp only at AR hbd ⊢
  clear har hI h hm
  by_cases hx : x = 0
  · rw [if_pos hx] at AR
    rw [if_pos (Or.inl hx)]
    have AH := Lib.hid AR
    clear AR hx hbd
    go_enter Try.func12, Try.ntmps12
    go_wp2_with fail
    refine AH.out.mono ?_
    rintro e w1 ⟨rfl, hb1⟩
    go_wp2_with fail
    exact bodyPost_ret (v := .tuple #[.int .i64 0, .bool false]) (by simp [results, Try.results12, go_sem]) rfl ⟨rfl, hb1.alloc hb1.size _⟩
  · rw [if_neg hx] at AR
    have AH := Lib.hid AR
    have hb : 16 ≤ x ∧ x ≤ y ∧ y ≤ 1048575 := by omega
    obtain ⟨b1, b2, b3⟩ := hb
    by_cases hn : n < 0
    · rw [if_pos (Or.inr (Or.inl hn))]
      clear AR hx hbd
      go_enter Try.func12, Try.ntmps12
      go_wp2_with fail
      refine AH.out.mono ?_
      rintro e w1 ⟨rfl, hb1⟩
      go_wp2_with fail
      exact bodyPost_ret (v := .tuple #[.int .i64 0, .bool false]) (by simp [results, Try.results12, go_sem]) rfl ⟨rfl, hb1.alloc hb1.size _⟩
    · by_cases hd : y - x < n
      · rw [if_pos (Or.inr (Or.inr hd))]
        clear AR hx hbd
        go_enter Try.func12, Try.ntmps12
        go_wp2_with fail
        refine AH.out.mono ?_
        rintro e w1 ⟨rfl, hb1⟩
        go_wp2_with fail
        exact bodyPost_ret (v := .tuple #[.int .i64 0, .bool false]) (by simp [results, Try.results12, go_sem]) rfl ⟨rfl, hb1.alloc hb1.size _⟩
      · rw [if_neg (by omega)]
        clear AR hx hbd
        have hn0 : 0 ≤ n := by omega
        go_enter Try.func12, Try.ntmps12
        go_wp2_with fail
        refine AH.out.mono ?_
        rintro e w1 ⟨rfl, hb1⟩
        go_wp2_with fail
        exact bodyPost_ret (v := .tuple #[.int .i64 (x + n), .bool true]) (by simp [results, Try.results12, go_sem]) rfl ⟨rfl, hb1.alloc hb1.size _⟩
theorem spc_Blocks (g : Nat) (v0 v1 v2 vb : Value) (m : Sp.Spc) (hl : m.L.length ≤ 1000000) (r : Option Nat) (w : World) (h : SpcV w g r m v0 v1 v2 vb) :
    Calls Try.prog 15 #[.pointer (some ⟨g, 0, none⟩)] w (RetRow w.heap.size 47 4 m.L.length (flat encBk m.L) w) := by
  have HC := Lib.hid (cloneBk_any m.L (by omega) vb w (SlR.of_owns encBk_len h.2.2.2.2.1))
  have c9 : w.cell? ⟨g, 9, none⟩ = some vb := h.1.cell 9
  generalize flat encBk m.L = F at HC ⊢
  clear h
  go_enter Try.func15, Try.ntmps15
  go_wp2_with fail
  refine HC.out.mono ?_
  rintro e w1 ⟨v, rfl, ho, hb⟩
  go_wp2_with fail
  go_ret
  exact ⟨v, rfl, ho, hb⟩
/-- a slice of spans comes back -/
def RetSl (l : List Sp.S) (w : World) (e : Ending) (w' : World) : Prop := ∃ v, e = .returned v ∧ SlR w' 2 encSp v l ∧ Below w.heap.size w w'
theorem slr_nil (w : World) : SlR w 2 encSp (.slice none 0 0) [] := ⟨none, 0, rfl, Nat.le_refl _, by omega, fun _ => rfl, fun a ha => by cases ha⟩
theorem spc_cell {w : World} {g : Nat} {t : TypeId} {v0 v1 v2 vb : Value} {m : Sp.Spc} (h : Blk w g t (spcA v0 v1 v2 m vb)) {k : Int} (h0 : 0 ≤ k) (h2 : k ≤ 2) : w.cell? ⟨g, k.toNat, none⟩ = some (vAt v0 v1 v2 k) := by
  have : k = 0 ∨ k = 1 ∨ k = 2 := by omega
  rcases this with rfl | rfl | rfl
  · exact h.cell 0
  · exact h.cell 1
  · exact h.cell 2
theorem spc_Left (g : Nat) (k : Int) (v0 v1 v2 vb : Value) (m : Sp.Spc) (hm : Sp.WF m) (r : Option Nat) (w : World) (h : SpcV w g r m v0 v1 v2 vb) :
    Calls Try.prog 18 #[.pointer (some ⟨g, 0, none⟩), .int .i64 k] w (RetSl (Sp.leftR m k) w) := by
  by_cases hk : k < 0 ∨ 2 < k
  · have hr : Sp.leftR m k = [] := by unfold Sp.leftR; rw [if_pos (by omega)]
    rw [hr]
    have c : decide (k < 0) = true ∨ decide (k < 0) = false ∧ decide (3 ≤ k) = true := by simp; omega
    clear hr h hm
    rcases c with c | ⟨c1, c2⟩
    all_goals
      go_enter Try.func18, Try.ntmps18
      go_wp2_with fail
      go_ret
      exact ⟨_, rfl, slr_nil _, Below.refl _ _⟩
  · have hl := Sp.left_len hm k
    have hs := (h.left (k := k) (by omega) (by omega)).1
    have HC := Lib.hid (cloneSp_any (Sp.leftR m k) (by omega) (vAt v0 v1 v2 k) w hs)
    have ck := spc_cell h.1 (k := k) (by omega) (by omega)
    have hk0 : 0 ≤ k := by omega
    have hk3 : k < 3 := by omega
    generalize vAt v0 v1 v2 k = v at HC ck
    generalize hL : Sp.leftR m k = L at HC ⊢
    clear h hs hl hm hk hL
    go_enter Try.func18, Try.ntmps18
    go_wp2_with fail
    refine HC.out.mono ?_
    rintro e w1 ⟨v, rfl, ho, hb⟩
    go_wp2_with fail
    go_ret
    exact ⟨v, rfl, SlR.of_owns encSp_len ho, hb⟩
end Go.Proofs.Ytbeombmblifohaa
