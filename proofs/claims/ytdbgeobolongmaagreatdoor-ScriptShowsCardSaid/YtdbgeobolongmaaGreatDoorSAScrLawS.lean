/- Part of the proof: ScriptLines, ScriptParses, ScriptShows. -/
import Derived.Test.YtdbgeobolongmaaGreatDoorSA44
set_option linter.unusedVariables false
set_option linter.unusedSimpArgs false
set_option maxRecDepth 100000
set_option maxHeartbeats 4000000
namespace Go.Proofs.YtdbgeobolongmaaGreatDoor
open Go.RowKit Go.Shelf Go.Proofs Go.OctetPlain Go.PrefixPlain Go.Proofs.Tryz
theorem law32_small (x : Sc.Scr) (sa : List StV) (va : Value) (w : World) (A : ScIn xX w x sa va) :
  zCB 20 #[.agg (scA x va)] w (.bool (zCa x.steps)) := by
 have HB0 : Hid (∀ w1, w1 = w.alloc (.cells (scA x va) 61) -> InS w x sa va w1) := qh fun w1 h => by subst h; exact InS.new A.z A.low.1 A.low.2
 have HSB : Hid (zCa x.steps = (x.steps.all tZ && decide (x.steps.length <= 40))) := qh rfl; have HST := qh A.st; have HQ := qh A.p16; have HLN := qh A.len; obtain ⟨pa, ca, hva, hz1, hz2, -⟩ := A.sl; have HVA := qh hva; generalize zCa x.steps = sb at *; clear A hva
 go_enter func20, ntmps20
 go_upto_region 1 with (refine yS rfl _ (.tmp 0) rf (scA x va) rf ?_; intro w1 E1; have HI1 := qh (HB0.o w1 E1); clear E1)
 go_wp2_with fail
 go_loopw [3] (fun vi wr => ∃ k : Nat, vi = .int .i64 k /\ k <= sa.length /\ Hid (∀ s ∈ sa.take k, tZ s.t = true) /\ Hid (InS w x sa va wr)) (fun vi _ => sa.length - (intOf vi).toNat)
 case atStart => exact ⟨0, rfl, yQ _, qh (fun s hs => by cases hs), HI1⟩
 case round =>
  clear HI1 HB0; obtain ⟨k, rfl, hk, HE, HI⟩ := hrel; have a23 := HI.o.A.c23; rw [HVA.o] at a23
  by_cases hlt : k < sa.length
  ·obtain ⟨b1, o1, rfl, hR1⟩ := HI.o.range HVA.o hlt
   have HC := qh hR1; have HTA : Hid (sa.take (k + 1) = sa.take k ++ [sa[k]]) := qh (yA hlt); have HGA : Hid (sa[k] ∈ sa) := qh (yU _); have HI1 : Hid ((prog.info? 37).map (·.size) = some (uC sa[k]).length) := qh (by rw [kX]; exact uQ); have HSH := qh (zEz sa[k] wr (HQ.o _ (yU _)) ((HI.o.inn _ (yU _)).imp fun _ _ => trivial)); clear hR1; generalize sa[k] = p at *
   by_cases hp : tZ p.t = true
   ·rw [hp] at HSH
    have HP := qh hp; clear hp
    go_wp2_with (first
     | (refine xV 37 (.tmp 15) rf rf b1 (o1 + k * 36) rf (uC p) _ (HC.o _ HI.o) underlying37 rfl HI1.o ?_)
     | (refine zT HSH.o fun w4 hb4 => ?_; have HI4 := qh (HI.o.next hb4); clear hb4))
    exact ⟨⟨k + 1, by go_num, om, qh (fun s hs => by
     rw [HTA.o] at hs
     rcases xR.1 hs with h | h
     ·exact HE.o s h
     ·rw [xS.1 h]; exact HP.o), HI4⟩, by simp [intOf]; omega⟩
   ·have hp2 : tZ p.t = false := by simpa using hp
    rw [hp2] at HSH
    have HF : Hid (sb = false) := qh (by
     rw [HSB.o]
     have : x.steps.all tZ = false := by
      rw [← HST.o]; refine Bool.eq_false_iff.2 fun h => ?_; rw [jE] at h; have := h p.t (mH HGA.o); rw [hp2] at this; cases this
     rw [this]; rfl)
    clear hp hp2
    go_wp2_with (first
     | (refine xV 37 (.tmp 15) rf rf b1 (o1 + k * 36) rf (uC p) _ (HC.o _ HI.o) underlying37 rfl HI1.o ?_)
     | (refine zT HSH.o fun w4 hb4 => ?_; have HI4 := qh (HI.o.next hb4); clear hb4))
    go_ret
    exact ⟨by rw [HF.o]; rfl, HI4.o.bel⟩
  ·obtain rfl : k = sa.length := om
   have HT : Hid (x.steps.all tZ = true) := qh (by
    rw [← HST.o, jE]; intro t ht; obtain ⟨s, hs, rfl⟩ := vB.1 ht; exact HE.o s (by rw [xK]; exact hs))
   have HD : Hid (decide ((sa.length : Int) <= 40) = sb) := qh (by
    rw [HSB.o, HT.o, ← HLN.o, zAl]
    by_cases h : sa.length <= 40
    ·rw [zV h, zV om]
    ·rw [zM h, zM om])
   go_wp2
   go_ret
   exact ⟨by rw [← HD.o]; first | rfl | simp, HI.o.bel⟩
theorem law_shows (x : Sc.Scr) (sa : List StV) (va : Value) (w : World) (ht : ST w) (A : ScIn xX w x sa va) (h1 : I64 x.r1) (h2 : I64 x.r2) (h3 : I64 x.r3) (nb : ∀ t ∈ x.steps, NB t) :
  zCB 5 #[.agg (scA x va)] w (.bool true) := by
 have HT := qh fun (W : World) (hb : zW w W) => ht.below hb; have HB0 : Hid (∀ w1, w1 = w.alloc (.cells (scA x va) 61) -> BxS 61 xX w w.heap.size x sa va w1) := qh fun w1 h => by subst h; exact ⟨Blk.new _ _ _, A.below uB (yD _ _), yD _ _⟩
 have HAW := qh fun (W : World) (hb : zW w W) => zEk W (HT.o W hb); have HSL := qh fun (W : World) (h : BxS 61 xX w w.heap.size x sa va W) => law32_small x sa va W h.inn; have HOK := qh fun hs => ShOK.small A.z h1 h2 h3 nb (fun t ht => by rw [← A.st] at ht; obtain ⟨s, hs, rfl⟩ := vB.1 ht; exact A.p16 s hs) hs; have HZ := qh A.z; have HIS := qh A.iS; clear ht A nb
 go_enter func5, ntmps5
 go_upto_region 1 with (refine yS rfl _ (.tmp 0) rf (scA x va) rf ?_; intro w1 E1; have HV1 := qh (HB0.o w1 E1); clear E1)
 go_wp2_with fail
 refine zT (HAW.o _ HV1.o.bel) fun w2 hb2 => ?_; have HV2 := qh (HV1.o.next uB hb2); clear hb2
 go_wp2_with (refine yI rf 61 (.tmp 1) rf w.heap.size rf _ (scA x va) (0, 0) _ HV2.o.b underlying61 rfl HIS.o ?_)
 refine zT (HSL.o _ HV2.o) fun w3 hb3 => ?_; have HV3 := qh (HV2.o.next uB hb3); clear hb3; clear HV1 HV2 HB0 HAW HSL
 by_cases hsm : zCa x.steps = true
 rotate_left
 ·have hsf : zCa x.steps = false := by simpa using hsm
  rw [hsf]; clear hsm
  go_wp2
  go_ret
  exact ⟨rfl, HV3.o.bel⟩
 have HO := qh (HOK.o hsm).1; have HC := qh (HOK.o hsm).2; rw [hsm]; clear hsm HOK; have HSP := qh fun (W : World) (h : BxS 61 xX w w.heap.size x sa va W) => show_in HO.o (HT.o W h.bel) h.inn; have HPL := qh fun (W : World) (h : BxS 61 xX w w.heap.size x sa va W) => zCv (by have := HC.o.n; omega) h.inn; have HSD := qh fun (W : World) (v9 : Value) (hi : ScIn vG W x (sa.map svS) v9) => showD_in HO.o hi; have HBK := qh fun h => Sc.show_back HZ.o h; have htl := vX; generalize Sc.showX x = T at *
 go_wp2_with (first
  | (refine yI rf 61 (.tmp 1) rf w.heap.size rf _ (scA x va) (0, 0) _ HV3.o.b underlying61 rfl HIS.o ?_))
 refine zT (HSP.o _ HV3.o) fun w4 hb4 => ?_; have HV4 := qh (HV3.o.next uB hb4); clear hb4 HV3 HSP
 go_wp2_with (first
  | (refine yI rf 61 (.tmp 1) rf w.heap.size rf _ (scA x va) (0, 0) _ HV4.o.b underlying61 rfl HIS.o ?_))
 refine (HPL.o _ HV4.o).mono ?_; rintro e w5 ⟨v9, rfl, hi9, hb5⟩; have HV5 := qh (HV4.o.next uB hb5); have HI9 := qh hi9; clear hb5 hi9 HV4; go_wp2_with fail
 refine zT (HSD.o _ _ HI9.o) fun w6 hb6 => ?_; have HV6 := qh (HV5.o.next uB hb6); clear hb6 HV5 HI9 HSD
 by_cases hT : T = []
 ·have hem : T.isEmpty = true := by rw [hT]; rfl
  clear hT HBK
  go_wp2
  go_ret
  exact ⟨rfl, HV6.o.bel⟩
 have hem : T.isEmpty = false := by
  cases T with
  | nil => exact absurd rfl hT
  | cons a b => rfl
 have HPX := HBK.o hT
 have HPP : Hid (∀ W, zW w W -> Calls prog 16 #[.string (str T)] W (RetScr xX (.ok x) W)) := qh fun W hb => by
  have h := pJ T (by have := (Sc.parse_ok HPX).1; omega) W (HT.o W hb); rw [HPX] at h; exact h
 clear hT HBK HPX; go_wp2_with fail
 refine (HPP.o _ HV6.o.bel).mono ?_; rintro e w7 ⟨y, sb, vb, c, n, rfl, hi, hb7, ho, -⟩; obtain ⟨rfl, rfl, rfl⟩ := ho _ rfl; have HV7 := qh (HV6.o.next uB hb7); have HJ := qh hi; clear hi hb7 ho HV6 HPP
 go_upto_region 13 with (first
  | (refine zQ rfl 61 rf _ nQ ?_; intro w8 E8; have HE8 := qh E8; have HX8 : Hid (Blk w8 w7.heap.size 61 (scA scrZ (.slice none 0 0))) := (by rw [E8]; exact qh (Blk.new _ _ _)); clear E8)
  | (refine zJ rfl 61 (.tmp 6) (.tmp 28) rf w7.heap.size (scA y vb) rf rf _ _ HX8.o HJ.o.iS HJ.o.zz HJ.o.one ?_; intro w9 E9; have HP9 : Hid (Pr1 w w.heap.size w7.heap.size y sa sb va vb w9) := qh ⟨HV7.o.next uB (BxS.new uB HJ.o HV7.o.bel HE8.o E9).2, (BxS.new uB HJ.o HV7.o.bel HE8.o E9).1⟩; clear E9))
 have HD : Hid (Pr1 w w.heap.size w7.heap.size y sa sb va vb w9.drew) := qh (HP9.o.next (zb.drew)); have HPA := qh fun (W : World) (h : Pr1 w w.heap.size w7.heap.size y sa sb va vb W) => zCv (by have := HC.o.n; omega) h.a.inn; have HPB := qh fun (W : World) (h : Pr1 w w.heap.size w7.heap.size y sa sb va vb W) => zCv (by have := HC.o.n; omega) h.b.inn; have HSM := qh fun (W : World) (va9 vb9 : Value) (ha : ScIn vG W y (sb.map svS) vb9) (hb : ScIn vG W y (sa.map svS) va9) => same_in HC.o ha hb; have HJS := qh HJ.o.iS; clear HX8 HE8 HV7 HJ HC HT HO HPL HZ; refine yB (S := Pr1 w w.heap.size w7.heap.size y sa sb va vb) kf HD.o (fun hHeld => ?_); refine kq 0 ?_; refine kq 1 ?_ (v := .bool true) (hy := by intro w hSw; go_simp; try (simp)); refine kq 2 ?_; refine kY 3 rfl (zR rfl (w7.heap.size) rfl _ (scA y vb) _ (fun w h => h.b.b) underlying61 rfl HJS.o) ?_; refine kY 5 rfl (zR rfl (w.heap.size) rfl _ (scA y va) _ (fun w h => h.a.b) underlying61 rfl HIS.o) ?_; refine zS 4 fun K hK => ?_; go_simp; refine (HPB.o _ hHeld).mono ?_; rintro e wc ⟨vb9, rfl, hi9, hbc⟩; have HV9 := hHeld.next hbc; have HI9 := qh hi9; clear hi9; go_wp2_with fail
 refine zK hK (HV9) fun hHeld => ?_; clear hK K; refine zS 6 fun K hK => ?_; go_simp; refine (HPA.o _ hHeld).mono ?_; rintro e wd ⟨va9, rfl, hi9, hbd⟩; have HV9 := hHeld.next hbd; have HJ9 := qh hi9; have HI8 := qh (HI9.o.below goodD hbd); clear hi9; go_wp2_with fail
 refine zK hK (HV9) fun hHeld => ?_; clear hK K; refine zS 7 fun K hK => ?_; go_simp; refine zT (HSM.o _ _ _ HI8.o HJ9.o) fun we hbe => ?_; have HV9 := hHeld.next hbe; go_wp2_with fail
 refine zK hK (HV9) fun hHeld => ?_; clear hK K; refine kq 8 ?_; refine kq 9 ?_; refine zD ?_
 go_wp2
 go_ret
 exact ⟨rfl, hHeld.a.bel⟩
end Go.Proofs.YtdbgeobolongmaaGreatDoor
