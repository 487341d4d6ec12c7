/- The laws of layer 1: awake. -/
import Derived.Test.YtlefkmgcahpobaaDoorOctetUnhex2
import Derived.Test.YtlefkmgcahpobaaDoorOctetUnhex3
import Derived.Test.YtlefkmgcahpobaaDoorOctetNum2
import Derived.Test.YtlefkmgcahpobaaDoorOctetFns3
import Derived.Test.YtlefkmgcahpobaaDoorLit
namespace Go.Proofs.YtlefkmgcahpobaaDoor
set_option linter.unusedVariables false
set_option linter.unusedSimpArgs false
open Go.RowKit Go.Shelf Go.Proofs Go.OctetPlain

theorem lit3 (w : World) : SlR (w.alloc (.cells #[.int .u8 1, .int .u8 2, .int .u8 3] 5)) 1 encB (.slice (some ⟨w.heap.size, 0, none⟩) 3 3) [1, 2, 3] := slr_lit encB_len w _ [1, 2, 3] (by decide) _ rfl
theorem SlR.ofB {w : World} {B : Nat} {v : Value} {l : List UInt8} {e : TypeId} (h : w.ownsRow B e 1 v l.length (flat encB l)) : SlR w 1 encB v l := by
  obtain ⟨p, cap, rfl, h1, h2, h3⟩ := owns_b h
  exact ⟨p, cap, rfl, h1, h2, h3⟩

theorem dec120 : Lib.decDigits (Int.toNat 120) = [49, 50, 48] := by
  rw [show Int.toNat 120 = 120 from rfl, dec_ge (by omega), show 120 / 10 = 12 from rfl, dec_ge (by omega), show 12 / 10 = 1 from rfl, dec_lt (by omega)]
  rfl
theorem itoa40 : Lib.itoa (-40) = [45, 52, 48] := by
  unfold Lib.itoa
  rw [if_pos (by omega), show (-40 : Int).natAbs = 40 from rfl, dec_ge (by omega), show 40 / 10 = 4 from rfl, dec_lt (by omega)]
  rfl

set_option maxRecDepth 100000 in
set_option maxHeartbeats 4000000 in
theorem law01_awake (w : World) (ht : Tabs w) : Calls Tryd.prog 14 #[] w fun e w' => e = .returned (.bool true) ∧ Below w.heap.size w w' := by
  have HT := Lib.hid ht
  clear ht
  go_enter Tryd.func14, Tryd.ntmps14
  go_wp2_with fail
  refine (octet_Get [1, 2, 3] (by decide) 1 2 (by omega) (by omega) _ _ (lit3 w)).mono ?_
  rintro e w1 ⟨rfl, hb1⟩
  rw [show getN [1, 2, 3] 1 2 = 515 by decide, show decide (getOk [(1 : UInt8), 2, 3].length 1 2) = true by decide]
  have B1 := Lib.hid (belowA2 hb1)
  clear hb1
  go_wp2_with fail
  refine (octet_Put [1, 2, 3] (by decide) 0 2 (by omega) (by omega) 772 (by omega) _ _ (lit3 w1)).mono ?_
  rintro e w2 ⟨v2, rfl, ho2, hb2⟩
  rw [show putL [1, 2, 3] 0 2 772 = [3, 4, 3] by decide] at ho2
  rw [show decide (putOk [(1 : UInt8), 2, 3].length 0 2 772) = true by decide]
  have S2 := Lib.hid (SlR.ofB ho2)
  have B2 := Lib.hid (B1.out.trans ((belowA2 hb2).mono B1.out.size))
  clear hb2 ho2 B1
  go_wp2_with fail
  refine (octet_Cut [1, 2, 3] (by decide) 2 1 (by omega) (by omega) _ _ (lit3 w2)).mono ?_
  rintro e w3 ⟨v3, rfl, ho3, hb3⟩
  rw [show cutL [1, 2, 3] 2 1 = [3] by decide] at ho3
  rw [show decide (there [(1 : UInt8), 2, 3].length 2 1) = true by decide]
  have S3 := Lib.hid (SlR.ofB ho3)
  have T2 := Lib.hid (S2.out.below (belowA2 hb3) (Nat.le_refl _))
  have B3 := Lib.hid (B2.out.trans ((belowA2 hb3).mono B2.out.size))
  clear hb3 ho3 B2 S2
  go_wp2_with fail
  refine (octet_Unhex [70, 102, 48, 48] (by decide) _).mono ?_
  rintro e w4 ⟨v4, rfl, ho4, hb4⟩
  rw [show refUnhex [] [70, 102, 48, 48] = some [255, 0] by decide] at ho4 ⊢
  have S4 := Lib.hid (SlR.ofB ho4)
  have U2 := Lib.hid (T2.out.below hb4 (Nat.le_refl _))
  have U3 := Lib.hid (S3.out.below hb4 (Nat.le_refl _))
  have B4 := Lib.hid (B3.out.trans (hb4.mono B3.out.size))
  clear hb4 ho4 B3 S3 T2
  have T4 := Lib.hid (HT.out.below B4.out)
  go_wp2_with fail
  refine (octet_Number [49, 50, 48] (by decide) 120 _ T4.out).mono ?_
  rintro e w5 ⟨rfl, hb5⟩
  have hnum : number [49, 50, 48] 120 = some 120 := number_some.2 ⟨by omega, by omega, by omega, dec120.symm⟩
  rw [hnum]
  have V2 := U2.out.below hb5 (Nat.le_refl _)
  have V3 := U3.out.below hb5 (Nat.le_refl _)
  have V4 := S4.out.below hb5 (Nat.le_refl _)
  have c2 := V2.str Tryd.underlying22 Tryd.underlying5 Tryd.underlying9
  have c3 := V3.str Tryd.underlying22 Tryd.underlying5 Tryd.underlying9
  have c4 := V4.str Tryd.underlying22 Tryd.underlying5 Tryd.underlying9
  have W4 := Lib.hid V4
  have B5 := Lib.hid (B4.out.trans (hb5.mono B4.out.size))
  clear hb5 B4 S4 U2 U3 V2 V3 V4 hnum
  have htl := str_tl
  go_wp2_with fail
  have T5 := Lib.hid (HT.out.below B5.out)
  refine (octet_Hex [255, 0] (by decide) _ _ W4.out).mono ?_
  rintro e w6 ⟨rfl, hb6⟩
  rw [show hex [255, 0] = [102, 102, 48, 48] by decide]
  have T6 := Lib.hid (T5.out.below hb6)
  have B6 := Lib.hid (B5.out.trans (hb6.mono B5.out.size))
  clear hb6 c2 c3 c4 W4 B5
  go_wp2_with fail
  refine (octet_Digits (-40) (by omega) _ T6.out).mono ?_
  rintro e w7 ⟨rfl, hb7⟩
  rw [itoa40]
  have B7 := Lib.hid (B6.out.trans (hb7.mono B6.out.size))
  clear hb7 B6
  go_wp2_with fail
  go_ret
  exact ⟨rfl, B7.out⟩
end Go.Proofs.YtlefkmgcahpobaaDoor
