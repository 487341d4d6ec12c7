/- The laws of layer 1: Gets, Texts, Numbers. -/
import Derived.Test.YtlefkmgcahpobaaDoorOctetLaw
namespace Go.Proofs.YtlefkmgcahpobaaDoor
set_option linter.unusedVariables false
set_option linter.unusedSimpArgs false
open Go.RowKit Go.Shelf Go.Proofs Go.OctetPlain

theorem str_conv {w : World} {v : Value} {l : List UInt8} (h : SlR w 1 encB v l) : (convert 22 9 v).run Tryd.prog w = .ok (.string (str l)) w :=
  h.str Tryd.underlying22 Tryd.underlying5 Tryd.underlying9

set_option maxRecDepth 100000 in
set_option maxHeartbeats 600000 in
theorem law_gets (l : List UInt8) (k size : Int) (hk : -9223372036854775808 ≤ k ∧ k ≤ 9223372036854775807) (hs : -9223372036854775808 ≤ size ∧ size ≤ 9223372036854775807) (v : Value) (w : World) (ht : Tabs w) (hv : SlR w 1 encB v l) :
    Calls Tryd.prog 3 #[v, .int .i64 k, .int .i64 size] w fun e w' => e = .returned (.bool true) ∧ Below w.heap.size w w' := by
  have HT := Lib.hid ht
  have HV := Lib.hid hv
  obtain ⟨p, cap, rfl, hc1, hc2, hR⟩ := hv
  clear ht
  go_enter Tryd.func3, Tryd.ntmps3
  go_wp2_with fail
  refine (law01_awake _ HT.out).mono ?_
  rintro e w1 ⟨rfl, hb1⟩
  have V1 := Lib.hid (HV.out.below hb1 (Nat.le_refl _))
  have B1 := Lib.hid hb1
  clear hb1
  by_cases hl : 300 < (l.length : Int)
  · go_wp2_with fail
    go_ret
    exact ⟨rfl, B1.out⟩
  · go_wp2_with fail
    refine (octet_Get l (by omega) k size hk hs _ _ V1.out).mono ?_
    rintro e w2 ⟨rfl, hb2⟩
    have V2 := Lib.hid (V1.out.below hb2 (Nat.le_refl _))
    have B2 := Lib.hid (B1.out.trans (hb2.mono B1.out.size))
    have hst := str_conv V2.out
    clear hb2 V1 B1
    go_wp2_with fail
    refine (ref_Get l (by omega) k size hk hs _).mono ?_
    rintro e w3 ⟨rfl, rfl⟩
    go_wp2_with fail
    refine (octet_Cut l (by omega) k size hk hs _ _ V2.out).mono ?_
    rintro e w4 ⟨v4, rfl, ho4, hb4⟩
    have V4 := V2.out.below hb4 (Nat.le_refl _)
    have hst4 := str_conv V4
    have hst5 := str_conv (SlR.ofB ho4)
    have B4 := Lib.hid (B2.out.trans (hb4.mono B2.out.size))
    clear hb4 V4 ho4 B2 hst
    go_wp2_with fail
    refine (ref_Cut l (by omega) k size hk hs _).mono ?_
    rintro e w5 ⟨rfl, rfl⟩
    go_wp2_with fail
    go_ret
    exact ⟨rfl, B4.out⟩
end Go.Proofs.YtlefkmgcahpobaaDoor
