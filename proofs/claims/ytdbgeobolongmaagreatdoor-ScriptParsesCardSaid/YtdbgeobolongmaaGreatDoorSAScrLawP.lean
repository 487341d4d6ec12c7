/- Part of the proof: ScriptLines, ScriptParses, ScriptShows. -/
import Derived.Test.YtdbgeobolongmaaGreatDoorSA44
set_option linter.unusedVariables false
set_option linter.unusedSimpArgs false
set_option maxRecDepth 100000
set_option maxHeartbeats 4000000
namespace Go.Proofs.YtdbgeobolongmaaGreatDoor
open Go.RowKit Go.Shelf Go.Proofs Go.OctetPlain Go.PrefixPlain Go.Proofs.Tryz
theorem law_parses (s : List UInt8) (hsz : s.length <= 9223372036854775807) (w : World) (ht : ST w) :
  zCB 4 #[.string (str s)] w (.bool true) := by
 have HT := qh fun (W : World) (hb : zW w W) => ht.below hb; have hs : (str s).size = s.length := zZ s; have HAW := qh (zEk w ht); clear ht
 by_cases hlen : 4000 < s.length
 ·have hl2 : decide (4000 < (s.length : Int)) = true := zV om
  go_enter func4, ntmps4
  go_wp2_with fail
  refine zT HAW.o fun w1 b1 => ?_
  go_wp2
  go_ret
  exact ⟨rfl, b1⟩
 have hl2 : decide (4000 < (s.length : Int)) = false := zM om; have HPP := qh fun (W : World) (hb : zW w W) => pJ s om W (HT.o W hb); have HPD := qh fun (W : World) => r32_Parse s om W; have HCM := qh fun x (h : Sc.parseX s = .ok x) => parsed_cmp h om; generalize Sc.parseX s = o at *
 go_enter func4, ntmps4
 go_wp2_with fail
 refine zT HAW.o fun w1 b1 => ?_; have HB1 := qh b1; clear b1 HAW; go_wp2_with fail
 clear hlen hl2; refine (HPP.o _ HB1.o).mono ?_; rintro e w2 ⟨x, sa, va, c, n, rfl, hi, hb2, ho, he⟩; have HG := qh (Got.mk ho he); have HI := qh hi; have HB2 := qh (HB1.o.trans (hb2.mono HB1.o.size)); clear hi hb2 ho he HB1 HPP
 go_upto_region 7 with (first
  | (refine zQ rfl 61 rf _ nQ ?_; intro w3 E3; have HE3 := qh E3; have HX3 : Hid (Blk w3 w2.heap.size 61 (scA scrZ (.slice none 0 0))) := (by rw [E3]; exact qh (Blk.new _ _ _)); clear E3)
  | (refine zJ rfl 61 (.tmp 4) (.tmp 19) rf w2.heap.size (scA x va) rf rf _ _ HX3.o HI.o.iS HI.o.zz HI.o.one ?_; intro w4 E4; have HA4 := qh (BxS.new uB HI.o HB2.o HE3.o E4).1; clear E4))
 clear HE3 HX3 HB2; go_wp2_with fail
 refine (HPD.o _).mono ?_; rintro e w5 ⟨y, sb, vb, d, m, rfl, hi, hb5, ho, he⟩; obtain ⟨rfl, rfl, rfl⟩ := HG.o.same (Got.mk ho he); have HA5 := qh (HA4.o.next uB hb5); have HJ := qh hi; have HC := qh (HG.o.cmp HCM.o); clear hi hb5 ho he HA4 HPD HG HCM
 go_upto_region 8 with (first
  | (refine zQ rfl 69 rf _ zDb ?_; intro w6 E6; have HE6 := qh E6; have HX6 : Hid (Blk w6 w5.heap.size 69 (scA scrZ (.slice none 0 0))) := (by rw [E6]; exact qh (Blk.new _ _ _)); clear E6)
  | (refine zJ rfl 69 (.tmp 7) (.tmp 25) rf w5.heap.size (scA x vb) rf rf _ _ HX6.o HJ.o.iX HJ.o.zz HJ.o.one ?_; intro w7 E7; have HP7 : Hid (Pr2 w w2.heap.size w5.heap.size x sa sb va vb w7) := qh ⟨HA5.o.next uB (BxS.new goodD HJ.o HA5.o.bel HE6.o E7).2, (BxS.new goodD HJ.o HA5.o.bel HE6.o E7).1⟩; clear E7))
 have HD : Hid (Pr2 w w2.heap.size w5.heap.size x sa sb va vb w7.drew) := qh (HP7.o.next (zb.drew)); have HPL := qh fun (W : World) (h : Pr2 w w2.heap.size w5.heap.size x sa sb va vb W) => zCv (by have := HC.o.n; omega) h.a.inn; have HSM := qh fun (W : World) (v9 : Value) (h : Pr2 w w2.heap.size w5.heap.size x sa sb va vb W) (hi : ScIn vG W x (sa.map svS) v9) => same_in HC.o hi h.b.inn; have HIS := qh HI.o.iS; have HIX := qh HJ.o.iX; clear HX6 HE6 HA5 HI HJ HC HT; refine yB (S := Pr2 w w2.heap.size w5.heap.size x sa sb va vb) kf HD.o (fun hHeld => ?_); refine kY 0 rfl (zR rfl (w2.heap.size) rfl _ (scA x va) _ (fun w h => h.a.b) underlying61 rfl HIS.o) ?_; refine kY 2 rfl (zR rfl (w5.heap.size) rfl _ (scA x vb) _ (fun w h => h.b.b) underlying69 rfl HIX.o) ?_; refine zS 1 fun K hK => ?_; go_simp; refine (HPL.o _ hHeld).mono ?_; rintro e wc ⟨v9, rfl, hi9, hbc⟩; have HV9 := hHeld.next hbc; have HI9 := qh hi9; clear hi9; go_wp2_with fail
 refine zK hK (HV9) fun hHeld => ?_; clear hK K; refine zS 3 fun K hK => ?_; go_simp; refine zT (HSM.o _ _ hHeld HI9.o) fun wd hbd => ?_; have HV9 := hHeld.next hbd; go_wp2_with fail
 refine zK hK (HV9) fun hHeld => ?_; clear hK K; refine kq 4 ?_; refine kq 5 ?_; refine kq 6 ?_; refine kq 7 ?_ (v := .bool true) (hy := by intro w hSw; go_simp; try (simp)); refine kq 8 ?_; refine kq 9 ?_; refine kq 10 ?_; refine kq 11 ?_; refine kq 12 ?_ (v := .bool true) (hy := by intro w hSw; go_simp; try (simp)); refine kq 13 ?_; refine kq 14 ?_; refine zD ?_
 go_wp2
 go_ret
 exact ⟨rfl, hHeld.a.bel⟩
end Go.Proofs.YtdbgeobolongmaaGreatDoor
