/- The laws of layer 13: awake. -/
import Derived.Test.YtcioiiobjfblbaaSlotsLaw
namespace Go.Proofs.Ytcioiiobjfblbaa
set_option linter.unusedVariables false
set_option linter.unusedSimpArgs false
open Go.RowKit Go.Shelf Go.Proofs

theorem p1 : putS true 2 [] 5 50 = (0, [(5, 50)]) := by decide
theorem p2 : putS true 2 [(5, 50)] 1048575 60 = (0, [(5, 50), (1048575, 60)]) := by decide
theorem p3 : putS true 2 [(5, 50), (1048575, 60)] 6 70 = (30, [(5, 50), (1048575, 60)]) := by decide
theorem p4 : putS true 2 [(5, 50), (1048575, 60)] 5 55 = (0, [(5, 55), (1048575, 60)]) := by decide
theorem p5 : getW [(5, 55), (1048575, 60)] 5 = 55 ∧ Sl.hasB [(5, 55), (1048575, 60)] 5 = true := by decide
theorem p6 : delS true [(5, 55), (1048575, 60)] 6 = (31, [(5, 55), (1048575, 60)]) := by decide

set_option maxRecDepth 100000 in
set_option maxHeartbeats 4000000 in
theorem law13_awake (w : World) : Calls Try.prog 30 #[] w fun e w' => e = .returned (.bool true) ∧ Below w.heap.size w w' := by
  go_enter Try.func30, Try.ntmps30
  go_wp2_with fail
  refine (slots_New 2 _ (by omega) (by omega)).mono ?_
  rintro e w1 ⟨Bt, rfl, hT, hb1⟩
  have h1 : TS w.heap.size (.pointer (some ⟨Bt, 0, none⟩)) true 2 [] w1 := .inl ⟨rfl, Bt, rfl, hT⟩
  have z1 := hb1.size
  clear hT
  go_wp2_with fail
  refine (put_any _ _ true 2 [] 5 50 _ h1 z1).mono ?_
  rw [p1]
  rintro e w2 ⟨rfl, h2, _, hb2⟩
  have B2 := hb1.trans hb2
  have z2 := B2.size
  clear h1 hb1 hb2 z1
  go_wp2_with fail
  refine (put_any _ _ true 2 _ 1048575 60 _ h2 z2).mono ?_
  rw [p2]
  rintro e w3 ⟨rfl, h3, _, hb3⟩
  have B3 := B2.trans hb3
  have z3 := B3.size
  clear h2 B2 hb3 z2
  go_wp2_with fail
  refine (put_any _ _ true 2 _ 6 70 _ h3 z3).mono ?_
  rw [p3]
  rintro e w4 ⟨rfl, h4, _, hb4⟩
  have B4 := B3.trans hb4
  have z4 := B4.size
  clear h3 B3 hb4 z3
  go_wp2_with fail
  refine (put_any _ _ true 2 _ 5 55 _ h4 z4).mono ?_
  rw [p4]
  rintro e w5 ⟨rfl, h5, _, hb5⟩
  have B5 := B4.trans hb5
  have z5 := B5.size
  clear h4 B4 hb5 z4
  go_wp2_with fail
  refine (get_any _ _ true 2 _ 5 _ h5).mono ?_
  rw [p5.1, p5.2]
  rintro e w6 ⟨rfl, hb6⟩
  have h6 := h5.below hb6
  have B6 := B5.trans (hb6.mono z5)
  have z6 := B6.size
  clear h5 B5 hb6 z5
  go_wp2_with fail
  refine (all_any _ _ true 2 _ _ h6).mono ?_
  rintro e w7 ⟨v7, rfl, ho, hb7⟩
  have h7 := h6.below hb7
  have B7 := B6.trans (hb7.mono z6)
  have z7 := B7.size
  obtain ⟨p, cap, rfl, hc1, hc2, hR⟩ := SlR.of_owns encIt_len ho
  clear h6 B6 hb7 z6 ho
  obtain ⟨b, off, rfl, hbs, h3⟩ := hR.at (i := 1) (by simp)
  have x0 : w7.cell? ⟨b, off + 2, none⟩ = some (.int .i64 1048575) := by simpa using h3 0 _ rfl
  have x1 : w7.cell? ⟨b, off + 3, none⟩ = some (.int .i64 60) := by simpa using h3 1 _ rfl
  clear hR h3
  go_wp2_with fail
  refine (len_any _ _ true 2 _ _ h7).mono ?_
  rintro e w8 ⟨rfl, rfl⟩
  go_wp2_with fail
  refine (del_any _ _ true 2 _ 6 _ h7 z7).mono ?_
  rw [p6]
  rintro e w9 ⟨rfl, h9, _, hb9⟩
  have B9 := B7.trans hb9
  clear h7 B7 hb9 x0 x1
  go_wp2_with fail
  refine (slots_New_no 0 _ (by omega)).mono ?_
  rintro e w10 ⟨rfl, rfl⟩
  go_wp2_with fail
  go_ret
  exact ⟨rfl, B9⟩
end Go.Proofs.Ytcioiiobjfblbaa
