/- Part of the proof: contracts of the functions that the statements of layer 32 reach. -/
import Derived.Test.YtdbgeobolongmaaGreatDoorV41
set_option linter.unusedVariables false
set_option linter.unusedSimpArgs false
set_option maxRecDepth 100000
set_option maxHeartbeats 4000000
namespace Go.Proofs.YtdbgeobolongmaaGreatDoor
open Go.RowKit Go.Shelf Go.Proofs Go.OctetPlain Go.PrefixPlain
theorem law_back (s : List UInt8) (hsz : s.length ≤ 9223372036854775807) (w : World) (ht : ST w) :
  Calls Tryz.prog 6 #[.string (str s)] w fun e w' => e = .returned (.bool true) ∧ Below w.heap.size w w' := by
 have HT := qh fun (W : World) (hb : Below w.heap.size w W) => ht.below hb
 have hs : (str s).size = s.length := str_size s
 have HAW := qh (law_awake w ht)
 clear ht
 by_cases hlen : 4000 < s.length
 ·have hl2 : decide (4000 < (s.length : Int)) = true := decide_eq_true (by omega)
  go_enter Tryz.func6, Tryz.ntmps6
  go_wp2_with fail
  refine HAW.out.mono ?_
  rintro e w1 ⟨rfl, b1⟩
  go_wp2_with fail
  go_ret
  exact ⟨rfl, b1⟩
 have hl2 : decide (4000 < (s.length : Int)) = false := decide_eq_false (by omega)
 have HPP := qh fun (W : World) (hb : Below w.heap.size w W) => scr_Parse s (by omega) W (HT.out W hb)
 have HON := qh fun (W : World) (hb : Below w.heap.size w W) => scr_One s (by omega) W (HT.out W hb)
 have HCM := qh fun x (h : Sc.parseX s = .ok x) => parsed_cmp h (by omega)
 have HSO := qh fun x (h : Sc.parseX s = .ok x) => ShOK.parsed h (by omega)
 have HBK := qh fun x (h : Sc.parseX s = .ok x) => Sc.parse_back (by omega) h
 have HPE := qh fun k2 => parse_code (s := s) (k := k2)
 have HLN := qh fun t (h : Sc.oneR s = some t) => (⟨Sc.one_line h, one_SB h (by omega), by rw [one_textA h]; omega⟩ : Sc.lineR t = s ∧ SB t ∧ (textA t).length ≤ 65536)
 have htl := str_tl
 generalize Sc.parseX s = q at *
 generalize Sc.oneR s = o at *
 go_enter Tryz.func6, Tryz.ntmps6
 go_wp2_with fail
 refine HAW.out.mono ?_
 rintro e w1 ⟨rfl, b1⟩
 have HB1 := qh b1
 clear b1 HAW
 go_wp2_with fail
 clear hlen hl2
 refine (HON.out _ HB1.out).mono ?_
 rintro e w2 ⟨s2, rfl, hst, hp, hi, hb2⟩
 have HI2 : Hid (Inner (fun _ => True) w2 s2) := qh (hi.imp fun _ _ => trivial)
 have HP2 := qh hp
 have HS2 := qh hst
 have HB2 := qh (HB1.out.trans (hb2.mono HB1.out.size))
 clear hi hp hst hb2 HB1 HON
 go_upto_region 7 with (first
  | (refine wpList_alloc_as rfl 37 (by rfl) _ zeroSt ?_; intro w3 E3; have HE3 := qh E3; have HX3 : Hid (Blk w3 w2.heap.size 37 (stepA (sv Sc.z))) := (by rw [E3]; exact qh (Blk.new _ _ _)); clear E3)
  | (refine wpList_store_row_as rfl 37 (.tmp 4) (.tmp 21) (by rfl) w2.heap.size (stepA s2) (by rfl) (by rfl) _ _ HX3.out (by rw [stepA_size]; exact infoSt) (by rw [stepA_size, stepA_size]) HI2.out.one ?_; intro w4 E4; have HA4 := qh (Bx.new goodI HI2.out HP2.out HB2.out HE3.out E4).1; clear E4))
 clear HX3 HE3 HI2 HP2 HB2
 cases o with
 | none =>
  have HB5 := qh HA4.out.bel
  clear HLN HA4 HS2
  go_upto_region 9 with fail
  go_wp2_with fail
  refine (HPP.out _ HB5.out).mono ?_
  rintro e w6 ⟨x, sa, va, c, n, rfl, hi, hb6, ho, he⟩
  have HG := qh (Got.mk ho he)
  have HI := qh hi
  have HB6 := qh (HB5.out.trans (hb6.mono HB5.out.size))
  clear hi hb6 ho he HB5 HPP
  go_upto_region 10 with (first
   | (refine wpList_alloc_as rfl 61 (by rfl) _ zeroSc ?_; intro w7 E7; have HE7 := qh E7; have HX7 : Hid (Blk w7 w6.heap.size 61 (scA scrZ (.slice none 0 0))) := (by rw [E7]; exact qh (Blk.new _ _ _)); clear E7)
   | (refine wpList_store_row_as rfl 61 (.tmp 6) (.tmp 33) (by rfl) w6.heap.size (scA x va) (by rfl) (by rfl) _ _ HX7.out HI.out.iS HI.out.zz HI.out.one ?_; intro w8 E8; have HA8 := qh (BxS.new goodI HI.out HB6.out HE7.out E8).1; clear E8))
  clear HE7 HX7 HB6
  cases q with
  | error k2 =>
   have hcd : (c != 0) = true := by simp only [bne_iff_ne, ne_eq]; rw [(HG.out.er k2 rfl).2.1]; exact HPE.out k2 rfl
   go_wp2_with fail
   go_ret
   exact ⟨rfl, HA8.out.bel⟩
  | ok z =>
   obtain ⟨rfl, rfl, rfl⟩ := HG.out.ok z rfl
   have HC := qh (HCM.out _ rfl)
   have HO := qh (HSO.out _ rfl)
   have HPX := qh (HBK.out _ rfl)
   have HSP := qh fun (W : World) (h : BxS 61 Inner w w6.heap.size x sa va W) => show_in HO.out (HT.out W h.bel) h.inn
   have HPY : Hid (∀ W, Below w.heap.size w W → Calls Tryz.prog 16 #[.string (str (Sc.showX x))] W (RetScr Inner (.ok x) W)) := qh fun W hb => by
    have h := scr_Parse (Sc.showX x) (by have := (Sc.parse_ok HPX.out).1; omega) W (HT.out W hb)
    rw [HPX.out] at h
    exact h
   have HIS := qh HI.out.iS
   generalize Sc.showX x = T at *
   clear HG HCM HSO HBK HPE HPX HI
   go_wp2_with (first
    | (refine wpList_load_want (by rfl) 61 (.tmp 6) (by rfl) w6.heap.size (by rfl) _ (scA x va) (0, 0) _ HA8.out.b Tryz.underlying61 rfl HIS.out ?_))
   refine (HSP.out _ HA8.out).mono ?_
   rintro e w9 ⟨rfl, hb9⟩
   have HA9 := qh (HA8.out.next goodI hb9)
   clear hb9 HA8 HSP
   go_wp2_with fail
   refine (HPY.out _ HA9.out.bel).mono ?_
   rintro e w10 ⟨y, sb, vb, c, n, rfl, hi, hb10, ho, -⟩
   obtain ⟨rfl, rfl, rfl⟩ := ho _ rfl
   have HV7 := qh (HA9.out.next goodI hb10)
   have HJ := qh hi
   clear hi hb10 ho HA9 HPY
   go_upto_region 13 with (first
    | (refine wpList_alloc_as rfl 61 (by rfl) _ zeroSc ?_; intro w11 E11; have HE11 := qh E11; have HX11 : Hid (Blk w11 w10.heap.size 61 (scA scrZ (.slice none 0 0))) := (by rw [E11]; exact qh (Blk.new _ _ _)); clear E11)
    | (refine wpList_store_row_as rfl 61 (.tmp 9) (.tmp 42) (by rfl) w10.heap.size (scA y vb) (by rfl) (by rfl) _ _ HX11.out HJ.out.iS HJ.out.zz HJ.out.one ?_; intro w12 E12; have HP9 : Hid (Pr1 w w6.heap.size w10.heap.size y sa sb va vb w12) := qh ⟨HV7.out.next goodI (BxS.new goodI HJ.out HV7.out.bel HE11.out E12).2, (BxS.new goodI HJ.out HV7.out.bel HE11.out E12).1⟩; clear E12))
   have HD : Hid (Pr1 w w6.heap.size w10.heap.size y sa sb va vb w12.drew) := qh (HP9.out.next ((Below.refl _ _).drew))
   have HPA := qh fun (W : World) (h : Pr1 w w6.heap.size w10.heap.size y sa sb va vb W) => plain_in (by have := HC.out.n; omega) h.a.inn
   have HPB := qh fun (W : World) (h : Pr1 w w6.heap.size w10.heap.size y sa sb va vb W) => plain_in (by have := HC.out.n; omega) h.b.inn
   have HSM := qh fun (W : World) (va9 vb9 : Value) (ha : ScIn InnerD W y (sa.map svS) va9) (hb : ScIn InnerD W y (sb.map svS) vb9) => same_in HC.out ha hb
   have HJS := qh HJ.out.iS
   clear HX11 HE11 HV7 HJ HC HT HO
   refine wp_region_held_drew (S := Pr1 w w6.heap.size w10.heap.size y sa sb va vb) (by kernel_rfl) HD.out (fun hHeld => ?_)
   refine kq 0 ?_
   refine kq 1 ?_ (v := .bool true) (hy := by intro w hSw; go_simp; try (simp))
   refine kq 2 ?_
   refine kY 3 rfl (zR rfl (w6.heap.size) rfl _ (scA y va) _ (fun w h => h.a.b) Tryz.underlying61 rfl HIS.out) ?_
   refine kY 5 rfl (zR rfl (w10.heap.size) rfl _ (scA y vb) _ (fun w h => h.b.b) Tryz.underlying61 rfl HJS.out) ?_
   refine zS 4 fun K hK => ?_
   go_simp
   refine (HPA.out _ hHeld).mono ?_; rintro e wc ⟨va9, rfl, hi9, hbc⟩; have HV9 := hHeld.next hbc; have HI9 := qh hi9; clear hi9
   go_wp2_with fail
   refine hK.out _ _ (HV9) (fun hHeld => ?_)
   clear hK K
   try simp only [qA, qB, qC, qD, qE, qF, qG]
   refine zS 6 fun K hK => ?_
   go_simp
   refine (HPB.out _ hHeld).mono ?_; rintro e wd ⟨vb9, rfl, hi9, hbd⟩; have HV9 := hHeld.next hbd; have HJ9 := qh hi9; have HI8 := qh (HI9.out.below goodD hbd); clear hi9
   go_wp2_with fail
   refine hK.out _ _ (HV9) (fun hHeld => ?_)
   clear hK K
   try simp only [qA, qB, qC, qD, qE, qF, qG]
   refine zS 7 fun K hK => ?_
   go_simp
   refine (HSM.out _ _ _ HI8.out HJ9.out).mono ?_; rintro e we ⟨rfl, hbe⟩; have HV9 := hHeld.next hbe
   go_wp2_with fail
   refine hK.out _ _ (HV9) (fun hHeld => ?_)
   clear hK K
   try simp only [qA, qB, qC, qD, qE, qF, qG]
   refine kq 8 ?_; refine kq 9 ?_
   refine zD ?_
   go_wp2_with fail
   go_ret
   exact ⟨rfl, hHeld.a.bel⟩
 | some t =>
  obtain ⟨hl, hsb, hta⟩ := HLN.out t rfl
  have HL : Hid (∀ W, Bx 37 Inner w w2.heap.size s2 W → Calls Tryz.prog 14 #[.agg (stepA s2)] W fun e w' => e = .returned (.string (str s)) ∧ Below W.heap.size W w') := qh fun W h => by
   have hst : s2.t = t := HS2.out
   have hc := scr_Line s2 W (HT.out W h.bel) h.inn h.p16 (by rw [hst]; exact hsb) (by rw [hst]; exact hta)
   rw [lineA_eq, hst, hl] at hc
   exact hc
  clear hl hsb hta HLN
  go_upto_region 9 with (first
   | (refine wpList_load_want (by rfl) 37 (.tmp 4) (by rfl) w2.heap.size (by rfl) _ (stepA s2) (0, 0) _ HA4.out.b Tryz.underlying37 rfl (by rw [stepA_size]; exact infoSt) ?_)
   | (refine (HL.out _ HA4.out).mono ?_; rintro e w5 ⟨rfl, hb5⟩; have HB5 := qh (HA4.out.bel.trans (hb5.mono HA4.out.bel.size)); clear hb5))
  clear HA4 HL HS2
  go_wp2_with fail
  refine (HPP.out _ HB5.out).mono ?_
  rintro e w6 ⟨x, sa, va, c, n, rfl, hi, hb6, ho, he⟩
  have HG := qh (Got.mk ho he)
  have HI := qh hi
  have HB6 := qh (HB5.out.trans (hb6.mono HB5.out.size))
  clear hi hb6 ho he HB5 HPP
  go_upto_region 10 with (first
   | (refine wpList_alloc_as rfl 61 (by rfl) _ zeroSc ?_; intro w7 E7; have HE7 := qh E7; have HX7 : Hid (Blk w7 w6.heap.size 61 (scA scrZ (.slice none 0 0))) := (by rw [E7]; exact qh (Blk.new _ _ _)); clear E7)
   | (refine wpList_store_row_as rfl 61 (.tmp 6) (.tmp 33) (by rfl) w6.heap.size (scA x va) (by rfl) (by rfl) _ _ HX7.out HI.out.iS HI.out.zz HI.out.one ?_; intro w8 E8; have HA8 := qh (BxS.new goodI HI.out HB6.out HE7.out E8).1; clear E8))
  clear HE7 HX7 HB6
  cases q with
  | error k2 =>
   have hcd : (c != 0) = true := by simp only [bne_iff_ne, ne_eq]; rw [(HG.out.er k2 rfl).2.1]; exact HPE.out k2 rfl
   go_wp2_with fail
   go_ret
   exact ⟨rfl, HA8.out.bel⟩
  | ok z =>
   obtain ⟨rfl, rfl, rfl⟩ := HG.out.ok z rfl
   have HC := qh (HCM.out _ rfl)
   have HO := qh (HSO.out _ rfl)
   have HPX := qh (HBK.out _ rfl)
   have HSP := qh fun (W : World) (h : BxS 61 Inner w w6.heap.size x sa va W) => show_in HO.out (HT.out W h.bel) h.inn
   have HPY : Hid (∀ W, Below w.heap.size w W → Calls Tryz.prog 16 #[.string (str (Sc.showX x))] W (RetScr Inner (.ok x) W)) := qh fun W hb => by
    have h := scr_Parse (Sc.showX x) (by have := (Sc.parse_ok HPX.out).1; omega) W (HT.out W hb)
    rw [HPX.out] at h
    exact h
   have HIS := qh HI.out.iS
   generalize Sc.showX x = T at *
   clear HG HCM HSO HBK HPE HPX HI
   go_wp2_with (first
    | (refine wpList_load_want (by rfl) 61 (.tmp 6) (by rfl) w6.heap.size (by rfl) _ (scA x va) (0, 0) _ HA8.out.b Tryz.underlying61 rfl HIS.out ?_))
   refine (HSP.out _ HA8.out).mono ?_
   rintro e w9 ⟨rfl, hb9⟩
   have HA9 := qh (HA8.out.next goodI hb9)
   clear hb9 HA8 HSP
   go_wp2_with fail
   refine (HPY.out _ HA9.out.bel).mono ?_
   rintro e w10 ⟨y, sb, vb, c, n, rfl, hi, hb10, ho, -⟩
   obtain ⟨rfl, rfl, rfl⟩ := ho _ rfl
   have HV7 := qh (HA9.out.next goodI hb10)
   have HJ := qh hi
   clear hi hb10 ho HA9 HPY
   go_upto_region 13 with (first
    | (refine wpList_alloc_as rfl 61 (by rfl) _ zeroSc ?_; intro w11 E11; have HE11 := qh E11; have HX11 : Hid (Blk w11 w10.heap.size 61 (scA scrZ (.slice none 0 0))) := (by rw [E11]; exact qh (Blk.new _ _ _)); clear E11)
    | (refine wpList_store_row_as rfl 61 (.tmp 9) (.tmp 42) (by rfl) w10.heap.size (scA y vb) (by rfl) (by rfl) _ _ HX11.out HJ.out.iS HJ.out.zz HJ.out.one ?_; intro w12 E12; have HP9 : Hid (Pr1 w w6.heap.size w10.heap.size y sa sb va vb w12) := qh ⟨HV7.out.next goodI (BxS.new goodI HJ.out HV7.out.bel HE11.out E12).2, (BxS.new goodI HJ.out HV7.out.bel HE11.out E12).1⟩; clear E12))
   have HD : Hid (Pr1 w w6.heap.size w10.heap.size y sa sb va vb w12.drew) := qh (HP9.out.next ((Below.refl _ _).drew))
   have HPA := qh fun (W : World) (h : Pr1 w w6.heap.size w10.heap.size y sa sb va vb W) => plain_in (by have := HC.out.n; omega) h.a.inn
   have HPB := qh fun (W : World) (h : Pr1 w w6.heap.size w10.heap.size y sa sb va vb W) => plain_in (by have := HC.out.n; omega) h.b.inn
   have HSM := qh fun (W : World) (va9 vb9 : Value) (ha : ScIn InnerD W y (sa.map svS) va9) (hb : ScIn InnerD W y (sb.map svS) vb9) => same_in HC.out ha hb
   have HJS := qh HJ.out.iS
   clear HX11 HE11 HV7 HJ HC HT HO
   refine wp_region_held_drew (S := Pr1 w w6.heap.size w10.heap.size y sa sb va vb) (by kernel_rfl) HD.out (fun hHeld => ?_)
   refine kq 0 ?_
   refine kq 1 ?_ (v := .bool true) (hy := by intro w hSw; go_simp; try (simp))
   refine kq 2 ?_
   refine kY 3 rfl (zR rfl (w6.heap.size) rfl _ (scA y va) _ (fun w h => h.a.b) Tryz.underlying61 rfl HIS.out) ?_
   refine kY 5 rfl (zR rfl (w10.heap.size) rfl _ (scA y vb) _ (fun w h => h.b.b) Tryz.underlying61 rfl HJS.out) ?_
   refine zS 4 fun K hK => ?_
   go_simp
   refine (HPA.out _ hHeld).mono ?_; rintro e wc ⟨va9, rfl, hi9, hbc⟩; have HV9 := hHeld.next hbc; have HI9 := qh hi9; clear hi9
   go_wp2_with fail
   refine hK.out _ _ (HV9) (fun hHeld => ?_)
   clear hK K
   try simp only [qA, qB, qC, qD, qE, qF, qG]
   refine zS 6 fun K hK => ?_
   go_simp
   refine (HPB.out _ hHeld).mono ?_; rintro e wd ⟨vb9, rfl, hi9, hbd⟩; have HV9 := hHeld.next hbd; have HJ9 := qh hi9; have HI8 := qh (HI9.out.below goodD hbd); clear hi9
   go_wp2_with fail
   refine hK.out _ _ (HV9) (fun hHeld => ?_)
   clear hK K
   try simp only [qA, qB, qC, qD, qE, qF, qG]
   refine zS 7 fun K hK => ?_
   go_simp
   refine (HSM.out _ _ _ HI8.out HJ9.out).mono ?_; rintro e we ⟨rfl, hbe⟩; have HV9 := hHeld.next hbe
   go_wp2_with fail
   refine hK.out _ _ (HV9) (fun hHeld => ?_)
   clear hK K
   try simp only [qA, qB, qC, qD, qE, qF, qG]
   refine kq 8 ?_; refine kq 9 ?_
   refine zD ?_
   go_wp2_with fail
   go_ret
   exact ⟨rfl, hHeld.a.bel⟩
end Go.Proofs.YtdbgeobolongmaaGreatDoor
