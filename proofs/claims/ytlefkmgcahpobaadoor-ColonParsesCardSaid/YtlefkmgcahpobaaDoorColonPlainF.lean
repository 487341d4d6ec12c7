/- colon.Multi, Plain. -/
import Derived.Test.YtlefkmgcahpobaaDoorArrEq
import Derived.Test.YtlefkmgcahpobaaDoorColonOf
namespace Go.Proofs.YtlefkmgcahpobaaDoor
set_option linter.unusedVariables false
set_option linter.unusedSimpArgs false
open Go.RowKit Go.Shelf Go.Proofs Go.OctetPlain Go.ColonPlain

abbrev o16 : List UInt8 := [0, 0, 0, 0, 0, 0, 0, 0, 0, 0, 0, 0, 0, 0, 0, 1]
def plainB (l : List UInt8) : Bool := !(((l.headD 0).toNat : Int) == 255) && !decide (l = z16) && !decide (l = o16)

set_option maxRecDepth 100000 in
theorem colon_Multi (x0 x1 x2 x3 x4 x5 x6 x7 x8 x9 x10 x11 x12 x13 x14 x15 : Int) (w : World) : Calls Tryd.prog 34 #[.agg #[.int .u8 x0, .int .u8 x1, .int .u8 x2, .int .u8 x3, .int .u8 x4, .int .u8 x5, .int .u8 x6, .int .u8 x7, .int .u8 x8, .int .u8 x9, .int .u8 x10, .int .u8 x11, .int .u8 x12, .int .u8 x13, .int .u8 x14, .int .u8 x15]] w fun e w' => e = .returned (.bool (x0 == 255)) ∧ Below w.heap.size w w' := by
  go_enter Tryd.func34, Tryd.ntmps34
  go_wp2_with fail
  go_ret
  exact ⟨rfl, belowA w _⟩

set_option maxRecDepth 100000 in
set_option maxHeartbeats 2000000 in
theorem colon_Plain (l : List UInt8) (hl : l.length = 16) (w : World) : Calls Tryd.prog 36 #[.agg (arrB l)] w fun e w' => e = .returned (.bool (plainB l)) ∧ Below w.heap.size w w' := by
  have q1 := fun W => eq_bytes hl (show z16.length = 16 by rfl) W
  have q2 := fun W => eq_bytes hl (show o16.length = 16 by rfl) W
  have hP : Hid (plainB l = (!(((l.headD 0).toNat : Int) == 255) && !decide (l = z16) && !decide (l = o16))) := Lib.hid rfl
  generalize decide (l = z16) = e1 at q1 hP
  generalize decide (l = o16) = e2 at q2 hP
  obtain ⟨y0, y1, y2, y3, y4, y5, y6, y7, y8, y9, y10, y11, y12, y13, y14, y15, hy⟩ := list16 hl
  subst hy
  change Calls Tryd.prog _ #[.agg #[.int .u8 (y0.toNat : Int), .int .u8 (y1.toNat : Int), .int .u8 (y2.toNat : Int), .int .u8 (y3.toNat : Int), .int .u8 (y4.toNat : Int), .int .u8 (y5.toNat : Int), .int .u8 (y6.toNat : Int), .int .u8 (y7.toNat : Int), .int .u8 (y8.toNat : Int), .int .u8 (y9.toNat : Int), .int .u8 (y10.toNat : Int), .int .u8 (y11.toNat : Int), .int .u8 (y12.toNat : Int), .int .u8 (y13.toNat : Int), .int .u8 (y14.toNat : Int), .int .u8 (y15.toNat : Int)]] w _
  have HM := Lib.hid fun W => colon_Multi (y0.toNat : Int) (y1.toNat : Int) (y2.toNat : Int) (y3.toNat : Int) (y4.toNat : Int) (y5.toNat : Int) (y6.toNat : Int) (y7.toNat : Int) (y8.toNat : Int) (y9.toNat : Int) (y10.toNat : Int) (y11.toNat : Int) (y12.toNat : Int) (y13.toNat : Int) (y14.toNat : Int) (y15.toNat : Int) W
  have Q1 : ∀ W, (Op.equalIn 10000 50 (.agg #[.int .u8 (y0.toNat : Int), .int .u8 (y1.toNat : Int), .int .u8 (y2.toNat : Int), .int .u8 (y3.toNat : Int), .int .u8 (y4.toNat : Int), .int .u8 (y5.toNat : Int), .int .u8 (y6.toNat : Int), .int .u8 (y7.toNat : Int), .int .u8 (y8.toNat : Int), .int .u8 (y9.toNat : Int), .int .u8 (y10.toNat : Int), .int .u8 (y11.toNat : Int), .int .u8 (y12.toNat : Int), .int .u8 (y13.toNat : Int), .int .u8 (y14.toNat : Int), .int .u8 (y15.toNat : Int)]) (.agg #[.int .u8 0, .int .u8 0, .int .u8 0, .int .u8 0, .int .u8 0, .int .u8 0, .int .u8 0, .int .u8 0, .int .u8 0, .int .u8 0, .int .u8 0, .int .u8 0, .int .u8 0, .int .u8 0, .int .u8 0, .int .u8 0])).run Tryd.prog W = .ok e1 W := q1
  have Q2 : ∀ W, (Op.equalIn 10000 50 (.agg #[.int .u8 (y0.toNat : Int), .int .u8 (y1.toNat : Int), .int .u8 (y2.toNat : Int), .int .u8 (y3.toNat : Int), .int .u8 (y4.toNat : Int), .int .u8 (y5.toNat : Int), .int .u8 (y6.toNat : Int), .int .u8 (y7.toNat : Int), .int .u8 (y8.toNat : Int), .int .u8 (y9.toNat : Int), .int .u8 (y10.toNat : Int), .int .u8 (y11.toNat : Int), .int .u8 (y12.toNat : Int), .int .u8 (y13.toNat : Int), .int .u8 (y14.toNat : Int), .int .u8 (y15.toNat : Int)]) (.agg #[.int .u8 0, .int .u8 0, .int .u8 0, .int .u8 0, .int .u8 0, .int .u8 0, .int .u8 0, .int .u8 0, .int .u8 0, .int .u8 0, .int .u8 0, .int .u8 0, .int .u8 0, .int .u8 0, .int .u8 0, .int .u8 1])).run Tryd.prog W = .ok e2 W := q2
  have hB0 : ∀ W, Below (w.alloc (.cells #[.int .u8 (y0.toNat : Int), .int .u8 (y1.toNat : Int), .int .u8 (y2.toNat : Int), .int .u8 (y3.toNat : Int), .int .u8 (y4.toNat : Int), .int .u8 (y5.toNat : Int), .int .u8 (y6.toNat : Int), .int .u8 (y7.toNat : Int), .int .u8 (y8.toNat : Int), .int .u8 (y9.toNat : Int), .int .u8 (y10.toNat : Int), .int .u8 (y11.toNat : Int), .int .u8 (y12.toNat : Int), .int .u8 (y13.toNat : Int), .int .u8 (y14.toNat : Int), .int .u8 (y15.toNat : Int)] 50)).heap.size (w.alloc (.cells #[.int .u8 (y0.toNat : Int), .int .u8 (y1.toNat : Int), .int .u8 (y2.toNat : Int), .int .u8 (y3.toNat : Int), .int .u8 (y4.toNat : Int), .int .u8 (y5.toNat : Int), .int .u8 (y6.toNat : Int), .int .u8 (y7.toNat : Int), .int .u8 (y8.toNat : Int), .int .u8 (y9.toNat : Int), .int .u8 (y10.toNat : Int), .int .u8 (y11.toNat : Int), .int .u8 (y12.toNat : Int), .int .u8 (y13.toNat : Int), .int .u8 (y14.toNat : Int), .int .u8 (y15.toNat : Int)] 50)) W → Blk W w.heap.size 50 (arrB [y0, y1, y2, y3, y4, y5, y6, y7, y8, y9, y10, y11, y12, y13, y14, y15]) := fun W hb => Blk.below (Blk.new w _ _) hb (by simp)
  have HB0 := Lib.hid hB0
  simp only [List.headD_cons] at hP
  generalize ((y0.toNat : Int) == 255) = mm at HM hP
  clear q1 q2 hB0
  cases mm
  · cases e1
    · go_enter Tryd.func36, Tryd.ntmps36
      go_wp2_with fail
      refine (HM.out _).mono ?_
      rintro e w1 ⟨rfl, hb1⟩
      obtain ⟨c0, c1, c2, c3, c4, c5, c6, c7, c8, c9, c10, c11, c12, c13, c14, c15⟩ := (HB0.out _ hb1).cells16
      have HB1 := Lib.hid (belowA2 hb1)
      clear hb1
      go_wp2_with fail
      go_ret
      exact ⟨by rw [hP.out]; simp, HB1.out⟩
    · go_enter Tryd.func36, Tryd.ntmps36
      go_wp2_with fail
      refine (HM.out _).mono ?_
      rintro e w1 ⟨rfl, hb1⟩
      obtain ⟨c0, c1, c2, c3, c4, c5, c6, c7, c8, c9, c10, c11, c12, c13, c14, c15⟩ := (HB0.out _ hb1).cells16
      have HB1 := Lib.hid (belowA2 hb1)
      clear hb1
      go_wp2_with fail
      go_ret
      exact ⟨by rw [hP.out]; simp, HB1.out⟩
  · go_enter Tryd.func36, Tryd.ntmps36
    go_wp2_with fail
    refine (HM.out _).mono ?_
    rintro e w1 ⟨rfl, hb1⟩
    have HB1 := Lib.hid (belowA2 hb1)
    clear hb1
    go_wp2_with fail
    go_ret
    exact ⟨by rw [hP.out]; simp, HB1.out⟩
end Go.Proofs.YtlefkmgcahpobaaDoor
