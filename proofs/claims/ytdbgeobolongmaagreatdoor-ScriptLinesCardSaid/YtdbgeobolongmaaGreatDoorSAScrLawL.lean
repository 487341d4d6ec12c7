/- Part of the proof: ScriptLines, ScriptParses, ScriptShows. -/
import Derived.Test.YtdbgeobolongmaaGreatDoorSA44
set_option linter.unusedVariables false
set_option linter.unusedSimpArgs false
set_option maxRecDepth 100000
set_option maxHeartbeats 4000000
namespace Go.Proofs.YtdbgeobolongmaaGreatDoor
open Go.RowKit Go.Shelf Go.Proofs Go.OctetPlain Go.PrefixPlain Go.Proofs.Tryz
theorem one_fitD {s : List UInt8} (hs : s.length <= 65536) : ((Sc.oneR s).getD Sc.z).hop.labels.length <= 1073741824 /\ ((Sc.oneR s).getD Sc.z).hop.repair.length <= 1073741824 /\ ((Sc.oneR s).getD Sc.z).ways.length <= 1073741824 := by
 cases h : Sc.oneR s with
 | none => exact ⟨zd, zd, zd⟩
 | some t => exact ⟨(zCs h).1, (zCs h).2, (one_sz h hs).1⟩
structure LnR (w : World) (Xa Xb : Nat) (v a b : StV) (W : World) : Prop where
 v : Bx 37 xX w w.heap.size v W
 a : Bx 37 xX w Xa a W
 b : Bx 46 vG w Xb b W
theorem LnR.next {w : World} {Xa Xb : Nat} {v a b : StV} {W W' : World} (h : LnR w Xa Xb v a b W) (hb : zW W W') : LnR w Xa Xb v a b W' := ⟨h.v.next uB hb, h.a.next uB hb, h.b.next goodD hb⟩
theorem law_lines (s : List UInt8) (hsz : s.length <= 9223372036854775807) (v : StV) (w : World) (ht : ST w) (p16 : v.t.pf.addr.length = 16) (hin : xX (fun _ => True) w v) (nb : NB v.t) :
  zCB 3 #[.string (str s), .agg (zY v)] w (.bool true) := by
 have HT := qh fun (W : World) (hb : zW w W) => ht.below hb; have hs : (str s).size = s.length := zZ s; have HB0 : Hid (∀ w1, w1 = w.alloc (.cells (zY v) 37) -> Bx 37 xX w w.heap.size v w1) := qh fun w1 h => by subst h; exact ⟨Blk.new _ _ _, p16, uB.below hin (yD _ _), yD _ _⟩
 have HAW := qh fun (W : World) (hb : zW w W) => zEk W (HT.o W hb); have HSH := qh fun (W : World) (h : Bx 37 xX w w.heap.size v W) => zEz v W h.p16 h.inn; have HML := qh fun h => Sml.of nb h p16; clear ht hin nb
 go_enter func3, ntmps3
 go_upto_region 1 with (refine yS rfl _ (.tmp 1) rf (zY v) rf ?_; intro w1 E1; have HV1 := qh (HB0.o w1 E1); clear E1)
 go_wp2_with fail
 refine zT (HAW.o _ HV1.o.bel) fun w2 hb2 => ?_; have HV2 := qh (HV1.o.next uB hb2); clear hb2
 go_wp2_with (refine yI rf 37 (.tmp 3) rf w.heap.size rf _ (zY v) (0, 0) _ HV2.o.b underlying37 rfl (by rw [zO]; exact uQ) ?_)
 refine zT (HSH.o _ HV2.o) fun w3 hb3 => ?_; have HV3 := qh (HV2.o.next uB hb3); clear hb3; clear HV1 HV2 HB0 HAW HSH
 by_cases hsh : tZ v.t = true
 rotate_left
 ·have hsf : tZ v.t = false := by simpa using hsh
  rw [hsf]; clear hsh
  go_wp2
  go_ret
  exact ⟨rfl, HV3.o.bel⟩
 have HM := qh (HML.o hsh); rw [hsh]; clear hsh HML
 by_cases hlen : 400 < s.length
 ·have hl2 : decide (400 < (s.length : Int)) = true := zV om
  go_wp2
  go_ret
  exact ⟨rfl, HV3.o.bel⟩
 have hl2 : decide (400 < (s.length : Int)) = false := zM om; have HON := qh fun (W : World) (hb : zW w W) => oG s om W (HT.o W hb); have HOD := qh fun (W : World) => r32_One s om W; have HFD := qh (one_fitD (s := s) om); generalize Sc.oneR s = o at *
 go_upto_region 7 with fail
 clear hl2 hlen; go_wp2_with fail
 refine (HON.o _ HV3.o.bel).mono ?_; rintro e w4 ⟨sa, rfl, hsa, hpa, hia, hb4⟩; have HV4 := qh (HV3.o.next uB hb4); have HIA : Hid (xX (fun _ => True) w4 sa) := qh (hia.imp fun _ _ => trivial); have HPA := qh hpa; have HSA := qh hsa; clear hb4 hia hpa hsa HV3
 go_upto_region 8 with (first
  | (refine zQ rfl 37 rf _ bJ ?_; intro w5 E5; have HE5 := qh E5; have HX5 : Hid (Blk w5 w4.heap.size 37 (zY (sv Sc.z))) := (by rw [E5]; exact qh (Blk.new _ _ _)); clear E5)
  | (refine zJ rfl 37 (.tmp 7) (.tmp 26) rf w4.heap.size (zY sa) rf rf _ _ HX5.o (by rw [zO]; exact uQ) (by rw [zO, zO]) HIA.o.one ?_; intro w6 E6; have HA6 := qh (Bx.new uB HIA.o HPA.o HV4.o.bel HE5.o E6).1; have HV6 := qh (HV4.o.next uB (Bx.new uB HIA.o HPA.o HV4.o.bel HE5.o E6).2); clear E6))
 clear HX5 HE5 HV4 HIA HPA; go_wp2_with fail
 refine (HOD.o _).mono ?_; rintro e w7 ⟨sb, rfl, hsb, hpb, hib, hb7⟩; have HV7 := qh (HV6.o.next uB hb7); have HA7 := qh (HA6.o.next uB hb7); have HIB : Hid (vG (fun _ => True) w7 sb) := qh (hib.imp fun _ _ => trivial); have HPB := qh hpb; have HSB := qh hsb; clear hb7 hib hpb hsb HV6 HA6
 go_upto_region 9 with (first
  | (refine zQ rfl 46 rf _ zAi ?_; intro w8 E8; have HE8 := qh E8; have HX8 : Hid (Blk w8 w7.heap.size 46 (zY (svD Sc.z))) := (by rw [E8]; exact qh (Blk.new _ _ _)); clear E8)
  | (refine zJ rfl 46 (.tmp 9) (.tmp 31) rf w7.heap.size (zY sb) rf rf _ _ HX8.o (by rw [zO]; exact kZ) (by rw [zO, zO]) HIB.o.one ?_; intro w9 E9; have HK9 := qh (Bx.new goodD HIB.o HPB.o HV7.o.bel HE8.o E9).2; have HB9 := qh (Bx.new goodD HIB.o HPB.o HV7.o.bel HE8.o E9).1; clear E9))
 have HL : Hid (LnR w w4.heap.size w7.heap.size v sa sb w9) := qh ⟨HV7.o.next uB HK9.o, HA7.o.next uB HK9.o, HB9.o⟩; have HD : Hid (LnR w w4.heap.size w7.heap.size v sa sb w9.drew) := qh (HL.o.next (zb.drew)); have HCA := qh fun (W : World) (h : LnR w w4.heap.size w7.heap.size v sa sb W) => zCd sa W h.a.p16 h.a.inn; have HCV := qh fun (W : World) (h : LnR w w4.heap.size w7.heap.size v sa sb W) => zCd v W h.v.p16 h.v.inn
 have HSM : Hid (∀ W, LnR w w4.heap.size w7.heap.size v sa sb W -> zCB 12 #[.agg (zY (svS sa)), .agg (zY sb)] W (.bool true)) := qh fun W h => by
  have hd := pW (svS sa) sb W (h.a.inn.svS) h.b.inn h.a.p16 h.b.p16 (by rw [svS_t, HSA.o]; exact HFD.o.1) (by rw [svS_t, HSA.o]; exact HFD.o.2.1) (by rw [svS_t, HSA.o]; exact HFD.o.2.2) (by rw [HSB.o]; exact HFD.o.1) (by rw [HSB.o]; exact HFD.o.2.1) (by rw [HSB.o]; exact HFD.o.2.2); rw [zV (by rw [svS_t, HSA.o, HSB.o])] at hd; exact hd
 have HLP : Hid (∀ W, LnR w w4.heap.size w7.heap.size v sa sb W -> zCB 14 #[.agg (zY v)] W (.string (str (Sc.lineR v.t)))) := qh fun W h => by
  have hd := scr_Line v W (HT.o W h.v.bel) h.v.inn h.v.p16 HM.o.sb (yK (sU HM.o) zd); rw [zAb] at hd; exact hd
 have HLD : Hid (∀ W, LnR w w4.heap.size w7.heap.size v sa sb W -> zCB 15 #[.agg (zY (svS v))] W (.string (str (Sc.lineR v.t)))) := qh fun W h => by
  have hd := r32_Line (svS v) W ⟨h.v.p16, h.v.inn.svS, HM.o.sb, yK (zAg HM.o) zd⟩; rw [svS_t, Sc.lineD_eq] at hd; exact hd
 have htl := vX; generalize Sc.lineR v.t = ln at *; clear HX8 HE8 HV7 HA7 HIB HPB HK9 HB9 HON HOD HFD HM HT; refine yB (S := LnR w w4.heap.size w7.heap.size v sa sb) kf HD.o (fun hHeld => ?_); refine kY 0 rfl (zR rfl (w4.heap.size) rfl _ (zY sa) _ (fun w h => h.a.b) underlying37 rfl (by rw [zO]; exact uQ)) ?_; refine kY 2 rfl (zR rfl (w7.heap.size) rfl _ (zY sb) _ (fun w h => h.b.b) underlying46 rfl (by rw [zO]; exact kZ)) ?_; refine zS 1 fun K hK => ?_; go_simp; refine zT (HCA.o _ hHeld) fun wc hbc => ?_; have HV9 := hHeld.next hbc; go_wp2_with fail
 refine zK hK (HV9) fun hHeld => ?_; clear hK K; refine zS 3 fun K hK => ?_; go_simp; refine zT (HSM.o _ hHeld) fun wc hbc => ?_; have HV9 := hHeld.next hbc; go_wp2_with fail
 refine zK hK (HV9) fun hHeld => ?_; clear hK K; refine kq 4 ?_; refine kq 5 ?_; refine kq 6 ?_; refine kq 7 ?_ (v := .bool true) (hy := by intro w hSw; go_simp; try (simp)); refine kq 8 ?_; refine kq 9 ?_; refine kY 10 rfl (zR rfl (w.heap.size) rfl _ (zY v) _ (fun w h => h.v.b) underlying37 rfl (by rw [zO]; exact uQ)) ?_; refine kY 12 rfl (zR rfl (w.heap.size) rfl _ (zY v) _ (fun w h => h.v.b) underlying37 rfl (by rw [zO]; exact uQ)) ?_; refine zS 11 fun K hK => ?_; go_simp; refine zT (HLP.o _ hHeld) fun wc hbc => ?_; have HV9 := hHeld.next hbc; go_wp2_with fail
 refine zK hK (HV9) fun hHeld => ?_; clear hK K; refine zS 13 fun K hK => ?_; go_simp; refine zT (HCV.o _ hHeld) fun wc hbc => ?_; have HV9 := hHeld.next hbc; go_wp2_with fail
 refine zK hK (HV9) fun hHeld => ?_; clear hK K; refine zS 14 fun K hK => ?_; go_simp; refine zT (HLD.o _ hHeld) fun wc hbc => ?_; have HV9 := hHeld.next hbc; go_wp2_with fail
 refine zK hK (HV9) fun hHeld => ?_; clear hK K; refine kq 15 ?_ (v := .bool true) (hy := by intro w hSw; go_simp; try (simp)); refine kq 16 ?_; refine kq 17 ?_; refine zD ?_
 go_wp2
 go_ret
 exact ⟨rfl, hHeld.v.bel⟩
end Go.Proofs.YtdbgeobolongmaaGreatDoor
