/- The document's spaces: may, Area, Index. -/
import Derived.Test.YtilahcnpjbnjiaaGreatDoorMSpcB
namespace Go.Proofs.YtilahcnpjbnjiaaGreatDoor
set_option linter.unusedVariables false
set_option linter.unusedSimpArgs false
open Go.RowKit Go.Shelf Go.Proofs

/-- the document's space as a value -/
def sA (m : Sp.Spc) (vL : Value) : Array Value := #[.int .i64 0, .int .i64 0, .int .i64 m.a1.1, .int .i64 m.a1.2, .int .i64 m.a2.1, .int .i64 m.a2.2, vL]
theorem r12_may (a b : Int) (w : World) :
    Calls Tryz.prog 57 #[.agg #[.int .i64 a, .int .i64 b]] w fun e w' => e = .returned (.bool (Sp.owns (a, b))) ∧ Below w.heap.size w w' := by
  have hr : Hid (Sp.owns (a, b) = (decide (16 ≤ a) && decide (a ≤ b) && decide (b ≤ 1048575))) := Lib.hid rfl
  rw [hr.out]
  by_cases c1 : 16 ≤ a <;> by_cases c2 : a ≤ b <;> by_cases c3 : b ≤ 1048575
  all_goals try (exfalso; omega)
  all_goals
    simp only [c1, c2, c3, decide_true, decide_false, Bool.and_true, Bool.and_false, Bool.false_and, Bool.true_and]
    first | (have e1 : decide (16 ≤ a) = true := by simpa using c1) | (have e1 : decide (16 ≤ a) = false := by simpa using c1)
    first | (have e2 : decide (a ≤ b) = true := by simpa using c2) | (have e2 : decide (a ≤ b) = false := by simpa using c2)
    first | (have e3 : decide (b ≤ 1048575) = true := by simpa using c3) | (have e3 : decide (b ≤ 1048575) = false := by simpa using c3)
    go_enter Tryz.func57, Tryz.ntmps57
    go_wp2
    go_ret
    exact ⟨rfl, (Below.refl _ _).alloc (Nat.le_refl _) _⟩
set_option maxHeartbeats 1000000 in
theorem r12_Area (m : Sp.Spc) (vL : Value) (hv : ∃ p n c, vL = .slice p n c) (k : Int) (w : World) :
    Calls Tryz.prog 41 #[.agg (sA m vL), .int .i64 k] w (RetSB (Sp.areaR m k) w) := by
  obtain ⟨p, n, c, rfl⟩ := hv
  obtain ⟨⟨x1, y1⟩, ⟨x2, y2⟩, L⟩ := m
  have hb : Below w.heap.size w ((w.alloc (.cells (sA ⟨(x1, y1), (x2, y2), L⟩ (.slice p n c)) 44)).alloc (.cells #[.int .i64 0, .int .i64 0] 35)) := (belowA w _).alloc (by simp) _
  have hb2 : ∀ x y : Int, Below w.heap.size w ((w.alloc (.cells (sA ⟨(x1, y1), (x2, y2), L⟩ (.slice p n c)) 44)).alloc (.cells #[.int .i64 x, .int .i64 y] 35)) := fun x y => (belowA w _).alloc (by simp) _
  have HB := Lib.hid hb
  have HB2 := Lib.hid hb2
  clear hb hb2
  simp only [sA] at HB HB2 ⊢
  by_cases hk : k < 1 ∨ 2 < k
  · have hr : Sp.areaR ⟨(x1, y1), (x2, y2), L⟩ k = ((0, 0), false) := by unfold Sp.areaR; rw [if_pos (by omega)]
    rw [hr]
    clear hr
    rcases hk with hk | hk
    · go_enter Tryz.func41, Tryz.ntmps41
      go_wp2_with fail
      exact bodyPost_ret (v := .tuple #[.agg #[.int .i64 0, .int .i64 0], .bool false]) (by simp [results, Tryz.results41, go_sem]) rfl ⟨rfl, HB.out⟩
    · have hk1 : ¬ k < 1 := by omega
      go_enter Tryz.func41, Tryz.ntmps41
      go_wp2_with fail
      exact bodyPost_ret (v := .tuple #[.agg #[.int .i64 0, .int .i64 0], .bool false]) (by simp [results, Tryz.results41, go_sem]) rfl ⟨rfl, HB.out⟩
  · have hk12 : k = 1 ∨ k = 2 := by omega
    clear hk
    rcases hk12 with rfl | rfl
    · by_cases hx : x1 = 0
      · have hr : Sp.areaR ⟨(x1, y1), (x2, y2), L⟩ 1 = ((0, 0), false) := by unfold Sp.areaR; exact if_pos (Or.inr (Or.inr hx))
        rw [hr]
        subst hx
        clear hr
        go_enter Tryz.func41, Tryz.ntmps41
        go_wp2_with fail
        exact bodyPost_ret (v := .tuple #[.agg #[.int .i64 0, .int .i64 0], .bool false]) (by simp [results, Tryz.results41, go_sem]) rfl ⟨rfl, HB.out⟩
      · have hr : Sp.areaR ⟨(x1, y1), (x2, y2), L⟩ 1 = ((x1, y1), true) := by unfold Sp.areaR; rw [if_neg (fun h => by rcases h with h | h | h; omega; omega; exact hx h)]; rfl
        rw [hr]
        clear hr
        have hxb : ((x1 : Int) == 0) = false := by rw [beq_eq_false_iff_ne]; exact hx
        clear hx
        go_enter Tryz.func41, Tryz.ntmps41
        go_wp2_with fail
        exact bodyPost_ret (v := .tuple #[.agg #[.int .i64 x1, .int .i64 y1], .bool true]) (by simp [results, Tryz.results41, go_sem]) rfl ⟨rfl, HB2.out _ _⟩
    · by_cases hx : x2 = 0
      · have hr : Sp.areaR ⟨(x1, y1), (x2, y2), L⟩ 2 = ((0, 0), false) := by unfold Sp.areaR; exact if_pos (Or.inr (Or.inr hx))
        rw [hr]
        subst hx
        clear hr
        go_enter Tryz.func41, Tryz.ntmps41
        go_wp2_with fail
        exact bodyPost_ret (v := .tuple #[.agg #[.int .i64 0, .int .i64 0], .bool false]) (by simp [results, Tryz.results41, go_sem]) rfl ⟨rfl, HB.out⟩
      · have hr : Sp.areaR ⟨(x1, y1), (x2, y2), L⟩ 2 = ((x2, y2), true) := by unfold Sp.areaR; rw [if_neg (fun h => by rcases h with h | h | h; omega; omega; exact hx h)]; rfl
        rw [hr]
        clear hr
        have hxb : ((x2 : Int) == 0) = false := by rw [beq_eq_false_iff_ne]; exact hx
        clear hx
        go_enter Tryz.func41, Tryz.ntmps41
        go_wp2_with fail
        exact bodyPost_ret (v := .tuple #[.agg #[.int .i64 x2, .int .i64 y2], .bool true]) (by simp [results, Tryz.results41, go_sem]) rfl ⟨rfl, HB2.out _ _⟩
end Go.Proofs.YtilahcnpjbnjiaaGreatDoor
