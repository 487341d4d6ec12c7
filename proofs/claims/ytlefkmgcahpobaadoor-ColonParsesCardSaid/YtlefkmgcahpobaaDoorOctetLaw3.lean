/- The laws of layer 1: Texts, Numbers, Puts. -/
import Derived.Test.YtlefkmgcahpobaaDoorOctetLaw2
import Derived.Deep.RegionWith
namespace Go.Proofs.YtlefkmgcahpobaaDoor
set_option linter.unusedVariables false
set_option linter.unusedSimpArgs false
open Go.RowKit Go.Shelf Go.Proofs Go.OctetPlain

/-- two slices of bytes, and nothing older turned -/
structure TX (w : World) (v : Value) (l : List UInt8) (vx : Value) (o : List UInt8) (W : World) : Prop where
  v : SlR W 1 encB v l
  x : SlR W 1 encB vx o
  below : Below w.heap.size w W
theorem TX.next {w : World} {v vx : Value} {l o : List UInt8} {W W' : World} (h : TX w v l vx o W) (hb : Below W.heap.size W W') : TX w v l vx o W' :=
  ⟨h.v.below hb (Nat.le_refl _), h.x.below hb (Nat.le_refl _), h.below.trans (hb.mono h.below.size)⟩
theorem TX.drew {w : World} {v vx : Value} {l o : List UInt8} {W : World} (h : TX w v l vx o W) : TX w v l vx o W.drew := h.next (Below.refl _ _).drew

set_option maxRecDepth 100000 in
set_option maxHeartbeats 4000000 in
theorem law_texts (l s : List UInt8) (v : Value) (w : World) (ht : Tabs w) (hv : SlR w 1 encB v l) :
    Calls Tryd.prog 5 #[v, .string (str s)] w fun e w' => e = .returned (.bool true) ∧ Below w.heap.size w w' := by
  have HT := Lib.hid ht
  have HV := Lib.hid hv
  have hsz : (str s).size = s.length := str_size s
  obtain ⟨p, cap, rfl, hc1, hc2, hR⟩ := hv
  clear ht
  go_enter Tryd.func5, Tryd.ntmps5
  go_wp2_with fail
  refine (law01_awake _ HT.out).mono ?_
  rintro e w1 ⟨rfl, hb1⟩
  have V1 := Lib.hid (HV.out.below hb1 (Nat.le_refl _))
  have B1 := Lib.hid hb1
  clear hb1
  by_cases hl : 300 < (l.length : Int)
  · go_wp2_with fail
    go_ret
    exact ⟨rfl, B1.out⟩
  by_cases hs : 300 < (s.length : Int)
  · go_wp2_with fail
    go_ret
    exact ⟨rfl, B1.out⟩
  · go_wp2_with fail
    refine (octet_Unhex s (by omega) _).mono ?_
    rintro e w2 ⟨v2, rfl, ho2, hb2⟩
    have V2 := Lib.hid (V1.out.below hb2 (Nat.le_refl _))
    have S2 := Lib.hid (SlR.ofB ho2)
    have B2 := Lib.hid (B1.out.trans (hb2.mono B1.out.size))
    clear hb2 V1 B1 ho2
    go_wp2_with fail
    refine (ref_Unhex s (by omega) _).mono ?_
    rintro e w3 ⟨rfl, hb3⟩
    have V3 := Lib.hid (V2.out.below hb3 (Nat.le_refl _))
    have S3 := Lib.hid (S2.out.below hb3 (Nat.le_refl _))
    have B3 := Lib.hid (B2.out.trans (hb3.mono B2.out.size))
    clear hb3 V2 B2 S2
    go_wp2_with fail
    have T3 : TX w (.slice p l.length cap) l v2 ((refUnhex [] s).getD []) w3 := ⟨V3.out, S3.out, B3.out⟩
    have T3d := T3.drew
    have c3 := str_conv T3d.v
    have c3x := str_conv T3d.x
    have hlt : l.length ≤ 1073741824 := by omega
    clear V3 S3 B3
    go_region_with (first
      | (go_at_call 23; refine (octet_Hex l hlt _ _ (TX.v (w := w) (vx := v2) (o := (refUnhex [] s).getD []) (by assumption))).mono ?_; rintro e wa ⟨rfl, hba⟩; have hTa := TX.next (w := w) (v := .slice p l.length cap) (l := l) (vx := v2) (o := (refUnhex [] s).getD []) (by assumption) hba; clear hba; have hsa := str_conv hTa.v; have hxa := str_conv hTa.x)
      | (go_at_call 24; refine (ref_Hex l hlt _).mono ?_; rintro e wb ⟨rfl, hbb⟩; have hTb := TX.next (w := w) (v := .slice p l.length cap) (l := l) (vx := v2) (o := (refUnhex [] s).getD []) (by assumption) hbb; clear hbb; have hsb := str_conv hTb.v; have hxb := str_conv hTb.x))
    all_goals go_wp2_with fail
    all_goals
      refine bodyPost_ret (v := .bool true) ?_ rfl ⟨rfl, ?_⟩
      · simp [results, Tryd.results5, go_sem]
      · first | exact hTb.below | exact hTa.below

set_option maxRecDepth 100000 in
set_option maxHeartbeats 600000 in
theorem law_numbers (n : Int) (s : List UInt8) (most : Int) (hn : -9223372036854775808 ≤ n ∧ n ≤ 9223372036854775807) (w : World) (ht : Tabs w) :
    Calls Tryd.prog 6 #[.int .i64 n, .string (str s), .int .i64 most] w fun e w' => e = .returned (.bool true) ∧ Below w.heap.size w w' := by
  have HT := Lib.hid ht
  have hsz : (str s).size = s.length := str_size s
  clear ht
  go_enter Tryd.func6, Tryd.ntmps6
  go_wp2_with fail
  refine (law01_awake _ HT.out).mono ?_
  rintro e w1 ⟨rfl, hb1⟩
  have T1 := Lib.hid (HT.out.below hb1)
  have B1 := Lib.hid hb1
  clear hb1
  by_cases hs : 60 < (s.length : Int)
  · go_wp2_with fail
    go_ret
    exact ⟨rfl, B1.out⟩
  · go_wp2_with fail
    refine (octet_Number s (by omega) most _ T1.out).mono ?_
    rintro e w2 ⟨rfl, hb2⟩
    have T2 := Lib.hid (T1.out.below hb2)
    have B2 := Lib.hid (B1.out.trans (hb2.mono B1.out.size))
    clear hb2 T1 B1
    go_wp2_with fail
    refine (ref_Number s (by omega) most _).mono ?_
    rintro e w3 ⟨rfl, rfl⟩
    go_wp2_with fail
    refine (octet_Digits n hn _ T2.out).mono ?_
    rintro e w4 ⟨rfl, hb4⟩
    have B4 := Lib.hid (B2.out.trans (hb4.mono B2.out.size))
    clear hb4 B2
    go_wp2_with fail
    refine (ref_Digits n hn _).mono ?_
    rintro e w5 ⟨rfl, rfl⟩
    go_wp2_with fail
    go_ret
    exact ⟨rfl, B4.out⟩

set_option maxRecDepth 100000 in
set_option maxHeartbeats 800000 in
theorem law_puts (l : List UInt8) (k : Int) (x : Nat) (hk : -9223372036854775808 ≤ k ∧ k ≤ 9223372036854775807) (hx : x < 18446744073709551616) (v : Value) (w : World) (ht : Tabs w) (hv : SlR w 1 encB v l) :
    Calls Tryd.prog 4 #[v, .int .i64 k, .int .u64 x] w fun e w' => e = .returned (.bool true) ∧ Below w.heap.size w w' := by
  have HT := Lib.hid ht
  have HV := Lib.hid hv
  obtain ⟨p, cap, rfl, hc1, hc2, hR⟩ := hv
  clear ht
  go_enter Tryd.func4, Tryd.ntmps4
  go_wp2_with fail
  refine (law01_awake _ HT.out).mono ?_
  rintro e w1 ⟨rfl, hb1⟩
  have V1 := Lib.hid (HV.out.below hb1 (Nat.le_refl _))
  have B1 := Lib.hid hb1
  have hst := str_conv V1.out
  clear hb1
  by_cases hl : 300 < (l.length : Int)
  · go_wp2_with fail
    go_ret
    exact ⟨rfl, B1.out⟩
  · go_wp2_with fail
    clear hst
    go_loopw [9] (fun s wr => ∃ m : Int, -1 ≤ m ∧ m ≤ 10 ∧ s = .int .i64 m ∧ Hid (Below w.heap.size w wr)) (fun s _ => (10 - intOf s).toNat)
    case atStart => exact ⟨-1, by omega, by omega, rfl, B1⟩
    case round =>
      obtain ⟨m, hm0, hm1, rfl, HB⟩ := hrel
      have V2 := Lib.hid (HV.out.below HB.out (Nat.le_refl _))
      by_cases hlt : m < 10
      · go_wp2_with fail
        refine (octet_Put l (by omega) k m hk (by omega) x hx _ _ V2.out).mono ?_
        rintro e w3 ⟨v3, rfl, ho3, hb3⟩
        have V3 := Lib.hid (V2.out.below hb3 (Nat.le_refl _))
        have S3 := Lib.hid (SlR.ofB ho3)
        have B3 := Lib.hid (HB.out.trans (hb3.mono HB.out.size))
        clear hb3 V2 HB ho3
        go_wp2_with fail
        refine (ref_Put l (by omega) k m hk (by omega) x hx _).mono ?_
        rintro e w4 ⟨rfl, hb4⟩
        have hst := str_conv (V3.out.below hb4 (Nat.le_refl _))
        have hst2 := str_conv (S3.out.below hb4 (Nat.le_refl _))
        have B4 := Lib.hid (B3.out.trans (hb4.mono B3.out.size))
        clear hb4 V3 B3 S3
        generalize decide (putOk l.length k m x) = ok
        have e1 : IntKind.i64.wrap (m + 1) = m + 1 := IntWalk.i64_in _ (by omega)
        go_wp2_with fail
        exact ⟨⟨m + 1, by omega, by omega, rfl, B4⟩, by simp [intOf]; omega⟩
      · go_wp2_with fail
        go_ret
        exact ⟨rfl, HB.out⟩
end Go.Proofs.YtlefkmgcahpobaaDoor
