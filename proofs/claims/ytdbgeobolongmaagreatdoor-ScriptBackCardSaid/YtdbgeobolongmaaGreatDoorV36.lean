/- Part of the proof: contracts of the functions that the statements of layer 32 reach. -/
import Derived.Test.YtdbgeobolongmaaGreatDoorV30
import Derived.Test.YtdbgeobolongmaaGreatDoorV35
set_option linter.unusedVariables false
set_option linter.unusedSimpArgs false
set_option maxRecDepth 100000
set_option maxHeartbeats 8000000
namespace Go.Proofs.YtdbgeobolongmaaGreatDoor
open Go.RowKit Go.Shelf Go.Proofs Go.OctetPlain Go.PrefixPlain
theorem line_op (s : StV) (w : World) (ht : ST w) (hin : Inner (fun _ => True) w s) (p16 : s.t.pf.addr.length = 16) (hsb : SB s.t) (hi : s.t.is = false) (k : Nat) (hk16 : k < 16) (hkd : s.t.kind = (k : Int)) (x : Hp.Wd) (hkx : Sc.names[k]? = some x) (hj : (Hp.join (wsA s.t x)).length ≤ 65536) (hxl : x.length ≤ 1000) :
  Calls Tryz.prog 14 #[.agg (stepA s)] w fun e w' => e = .returned (.string (str (lineA s.t))) ∧ Below w.heap.size w w' := by
 have HX : Hid (Sc.wordOf s.t = some x) := qh (by unfold Sc.wordOf; rw [if_neg (by rw [hi]; decide), if_pos (by rw [hkd]; omega), hkd]; simpa using hkx)
 have HT := qh ht
 have HIN := qh hin
 have HSB := qh hsb
 have HS0 : Hid (∀ w1, w1 = w.alloc (.cells (stepA s) 37) → StAt w1 w.heap.size s) := qh fun w1 h => by subst h; exact ⟨Blk.new _ _ _, p16⟩
 have HI0 : Hid (s.t.is = false) := qh hi
 have HKD := qh hkd
 have HKX := qh hkx
 clear ht hin hsb hi p16 hkd hkx
 have HP := qh fun W => scr_parts x (by omega) W
 have hwl : (wsA s.t x).length ≤ 65537 := by have := words_le (wsA s.t x); omega
 have HJ : Hid (∀ W v, SlR W 1 encS v (wsA s.t x) → Calls Tryz.prog 34 #[v, .string ⟨#[32]⟩] W fun e w' => e = .returned (.string (str (Hp.join (wsA s.t x)))) ∧ Below W.heap.size W w') := qh fun W v hv => joinS_any _ (by omega) (by omega) v W hv
 have HON : Hid (∀ W, ST W → Calls Tryz.prog 10 #[.string (str (Hp.join (wsA s.t x)))] W (RetOne (Sc.oneR (Hp.join (wsA s.t x))) W)) := qh fun W h => scr_One _ hj W h
 have HLA : Hid (lineA s.t = if Sc.oneR (Hp.join (wsA s.t x)) = some s.t then Hp.join (wsA s.t x) else []) := qh (by unfold lineA textA; rw [HX.out])
 have HWS : Hid (wsA s.t x = x :: (Sc.partsOf x).flatMap fun p => shwA p s.t) := qh rfl
 have HPL : Hid ((Sc.partsOf x).length ≤ 3) := qh (parts_le x)
 have hfl : ∀ k, (((Sc.partsOf x).take k).flatMap (fun p => shwA p s.t)).length ≤ 65537 := fun k => by have := take_flat (Sc.partsOf x) (fun p => shwA p s.t) k; rw [HWS.out] at hwl; simp only [List.length_cons] at hwl; omega
 have HFL := qh hfl
 have HJ0 := qh hj
 clear hfl hwl HX hj hxl
 generalize Sc.partsOf x = ps at *
 generalize lineA s.t = ln at *
 generalize hoe : Sc.oneR (Hp.join (wsA s.t x)) = o at *
 have HOE := qh hoe
 clear hoe
 go_enter Tryz.func14, Tryz.ntmps14
 go_wp2_with (refine wpList_box_as rfl _ (.tmp 0) (by rfl) (stepA s) (by rfl) ?_; intro w1 E1; have HS1 := qh (HS0.out w1 E1); have HB1 : Hid (Below w.heap.size w w1) := (by rw [E1]; exact qh (belowA w _)); clear E1; have HT1 := qh (HT.out.below HB1.out); have hz1 := HS1.out.lt; have cs0 := HS1.out.c0; have cs34 := HS1.out.c34; have cs1 := HS1.out.c1; rw [HI0.out] at cs0; rw [HKD.out] at cs1; have cn := HT1.out.nm k x HKX.out)
 have HI2 := qh (HIN.out.bd.low HB1.out (Nat.le_refl _))
 have HO2 := qh (owns_lit w1 9 #[.string (str x)] 1 rfl (by omega))
 have hb2 := belowA w1 (.cells #[.string (str x)] 9)
 have HB2 := qh hb2
 refine (HP.out _).mono ?_
 rintro e w3 ⟨v3, rfl, hb3, hp3⟩
 have hz3 := hb3.size
 have HB3 : Hid (Below w1.heap.size w1 w3) := qh (HB2.out.trans (hb3.mono (by simp)))
 have HL3 : Hid (LnS w w.heap.size w1.heap.size (w1.heap.size + 1) w3.heap.size ps s x 0 (.slice (some ⟨w1.heap.size, 0, none⟩) 1 1) v3 w3) := qh ⟨HS1.out.next HB3.out, HI2.out.low HB3.out (Nat.le_of_lt hz1), owns_below HO2.out hb3 (Nat.le_refl _), (fun g e => by simp [Value.ownBlock] at e; omega), PIn.of (by simpa using hp3), HB1.out.trans (HB3.out.mono HB1.out.size), HT.out, Nat.le_refl _, ⟨by omega, by simpa using hz3⟩, hz1, Nat.le_refl _⟩
 clear hb3 hp3 hb2
 obtain ⟨rows, hpl, p5, c5, rfl, -⟩ := HL3.out.P
 have hlr := hpl.len
 have hn5 : rows.length ≤ 3 := by rw [hlr]; exact HPL.out
 clear hpl cs0 cs34 cs1
 go_wp2_with fail
 rw [hlr] at HL3
 clear hlr hn5
 go_loopw [4, 6, 48] (fun vl _ vi wr => ∃ (k : Nat), vi = .int .i64 k ∧ k ≤ ps.length ∧ Hid (LnS w w.heap.size w1.heap.size (w1.heap.size + 1) w3.heap.size ps s x k vl (.slice p5 ps.length c5) wr)) (fun _ _ vi _ => ps.length - (intOf vi).toNat)
 case atStart => exact ⟨0, rfl, Nat.zero_le _, HL3⟩
 case round =>
  obtain ⟨k, rfl, hk, HU⟩ := hrel
  have hps := HPL.out
  have hwr := HU.out.B.size
  have hbz := HU.out.bz
  have hhz := HU.out.hz
  by_cases hlt : k < ps.length
  ·obtain ⟨pk, hpk⟩ : ∃ p, ps[k]? = some p := ⟨_, List.getElem?_eq_getElem hlt⟩
   obtain ⟨rows, hpl, hsl⟩ := HU.out.P
   obtain ⟨p6, c6, hvv, q1, q2, hR, -⟩ := hsl
   have hlr : rows.length = ps.length := hpl.len
   have hrk : k < rows.length := by omega
   obtain ⟨b6, o6, hb6, hbl6, hc⟩ := hR.at hrk
   injection hvv with e1 e2 e3
   subst e1 e3 hb6
   clear e2
   obtain ⟨vs, vr, hvr⟩ : ∃ vs vr, rows[k] = (vs, vr) := ⟨_, _, rfl⟩
   rw [hvr] at hc
   have hc0 := hc 0 vs rfl
   have hc1 := hc 1 vr rfl
   simp only [Nat.add_zero] at hc0
   have hpv := hpl.get hpk (by rw [List.getElem?_eq_getElem hrk, hvr])
   obtain ⟨f, g, cf, cg, rfl, rfl, ef, eg, hsh, hrd⟩ := hpv
   have hent := ef
   unfold Ent at hent
   have HTK : Hid (ps.take (k + 1) = ps.take k ++ [pk]) := qh (by obtain ⟨h8, h9⟩ := List.getElem?_eq_some_iff.1 hpk; rw [List.take_succ_eq_append_getElem hlt, h9])
   have HBX : Hid (Below wr.heap.size wr (wr.alloc (.cells #[.func (.func f) #[] cf, .func (.func g) #[] cg] 88))) := qh (belowA wr _)
   have HU2 := qh (HU.out.below HBX.out)
   have HSH := qh (hsh (wr.alloc (.cells #[.func (.func f) #[] cf, .func (.func g) #[] cg] 88)) w.heap.size s (Agree.of_below HBX.out hhz) (by simp; omega) (HT.out.below HU2.out.B) HU2.out.S (HU2.out.I.imp fun _ _ => trivial) HSB.out)
   have hf1 := HFL.out (k + 1)
   rw [HTK.out, List.flatMap_append, List.length_append] at hf1
   simp only [List.flatMap_cons, List.flatMap_nil, List.append_nil] at hf1
   clear hc hpl hR hsh hrd hpk hvr ef eg
   go_wp2_with fail
   refine HSH.out.mono ?_
   rintro e w7 ⟨v7, rfl, hv7, hb7⟩
   have HU7 := qh (HU2.out.below hb7)
   obtain ⟨p7, c7, rfl, z1, z2, hr7⟩ := hv7
   have HR7 := qh hr7
   have hbz7 := HU7.out.bz
   have hhz7 := HU7.out.hz
   have HAPP := qh fun v' w' => HU7.out.app (v' := v') (w' := w') HTK.out
   have HO7 := qh HU7.out.own
   clear hb7 hr7 HSH
   simp only [List.length_cons] at HO7
   generalize shwA pk s.t = sw at *
   go_wp2_with (at_builtin; go_loud (refine wpList_app_sl elemS rfl (.tmp 52) (.tmp 55) rfl w1.heap.size _ _ _ rfl HO7.out encS encS_len p7 c7 sw rfl HR7.out encS_one (by omega) (by omega) ?_; intro v8 w8 hown8 hgr8 hob8 hb8; have HN8 := qh (HAPP.out _ _ hown8 hgr8 hob8 hb8); clear hown8 hgr8 hob8 hb8))
   exact ⟨⟨k + 1, by go_num, by omega, HN8⟩, by simp [intOf]; omega⟩
  ·obtain rfl : k = ps.length := by omega
   have HV9 : Hid (SlR wr 1 encS u4 (wsA s.t x)) := qh (by
    have h := SlR.of_owns encS_len HU.out.own
    rw [List.take_length, ← HWS.out] at h
    exact h)
   obtain ⟨p9, c9, rfl, -, -, -⟩ := HV9.out
   have HSP := qh HU.out.S
   have HBP := qh HU.out.B
   have HIP := qh (HU.out.I.imp (r := fun _ => True) fun _ _ => trivial)
   go_wp2_with fail
   refine (HJ.out _ _ HV9.out).mono ?_
   rintro e w9 ⟨rfl, hb9⟩
   have HB9 := qh (HBP.out.trans (hb9.mono HBP.out.size))
   have HS9 := qh (HSP.out.next hb9)
   have HI9 := qh (HIP.out.below hb9 (Nat.le_refl _))
   clear hb9
   go_wp2_with fail
   refine (HON.out _ (HT.out.below HB9.out)).mono ?_
   rintro e w10 ⟨s', rfl, hst, hp16, hi', hb10⟩
   have HB10 := qh (HB9.out.trans (hb10.mono HB9.out.size))
   have HS10 := qh (HS9.out.next hb10)
   have HI10 := qh (HI9.out.below hb10 (Nat.le_refl _))
   have HI11 : Hid (Inner (fun _ => True) w10 s') := qh (hi'.imp fun _ _ => trivial)
   have HST := qh hst
   have HP16 := qh hp16
   have HF12 : Hid (∀ w11 w12, w11 = w10.alloc (.cells (stepA (sv Sc.z)) 37) → w12 = w11.setRow w10.heap.size (stepA s') → Blk w12 w10.heap.size 37 (stepA s') ∧ StAt w12 w.heap.size s ∧ Inner (fun _ => True) w12 s ∧ Inner (fun _ => True) w12 s' ∧ Below w.heap.size w w12) := qh fun w11 w12 h1 h2 => by
    subst h1
    rw [World.setRow_alloc_new] at h2
    subst h2
    exact ⟨Blk.new _ _ _, HS10.out.alloc _, HI10.out.below (belowA _ _) (Nat.le_refl _), HI11.out.below (belowA _ _) (Nat.le_refl _), HB10.out.alloc HB10.out.size _⟩
   clear hst hp16 hi' hb10
   cases o with
   | none =>
    have HL : Hid (ln = []) := qh (by rw [HLA.out, if_neg (by simp)])
    go_wp2_with (first
     | (refine wpList_alloc_as rfl 37 (by rfl) _ zeroSt ?_; intro w11 hw11; have HE11 := qh hw11; have HX11 : Hid (Blk w11 w10.heap.size 37 (stepA (sv Sc.z))) := (by rw [hw11]; exact qh (Blk.new _ _ _)); clear hw11)
     | (refine wpList_store_row_as rfl 37 (.tmp 8) (.tmp 63) (by rfl) w10.heap.size (stepA s') (by rfl) (by rfl) _ _ HX11.out (by rw [stepA_size]; exact infoSt) (by rw [stepA_size, stepA_size]) HI11.out.one ?_; intro w12 hw12; have H12 := qh (HF12.out w11 w12 HE11.out hw12); clear hw12))
    go_ret
    exact ⟨by rw [HL.out]; rfl, H12.out.2.2.2.2⟩
   | some y =>
    have HYS : Hid (s'.t = y) := qh HST.out
    have HOK : Hid (∀ W, StAt W w.heap.size s → Inner (fun _ => True) W s → Inner (fun _ => True) W s' → Calls Tryz.prog 35 #[.agg (stepA s), .agg (stepA s')] W fun e w' => e = .returned (.bool (decide (s.t = s'.t))) ∧ Below W.heap.size W w') := qh fun W h1 h2 h3 => by
     have hb := HSB.out
     exact scr_same s s' W ⟨h2, h1.p16, by have := hb.hop.n1; omega, by have := hb.hop.n2; omega, by have := hb.wl; omega, by have := hb.bl; omega⟩ (okOne (by rw [HOE.out, HYS.out]) HJ0.out HP16.out h3)
    by_cases hss : s.t = s'.t
    ·have HL : Hid (ln = Hp.join (wsA s.t x)) := qh (by rw [HLA.out, if_pos (by rw [hss, HYS.out])])
     rw [decide_eq_true hss] at HOK
     clear hss
     go_wp2_with (first
     | (refine wpList_alloc_as rfl 37 (by rfl) _ zeroSt ?_; intro w11 hw11; have HE11 := qh hw11; have HX11 : Hid (Blk w11 w10.heap.size 37 (stepA (sv Sc.z))) := (by rw [hw11]; exact qh (Blk.new _ _ _)); clear hw11)
     | (refine wpList_store_row_as rfl 37 (.tmp 8) (.tmp 63) (by rfl) w10.heap.size (stepA s') (by rfl) (by rfl) _ _ HX11.out (by rw [stepA_size]; exact infoSt) (by rw [stepA_size, stepA_size]) HI11.out.one ?_; intro w12 hw12; have H12 := qh (HF12.out w11 w12 HE11.out hw12); clear hw12)
     | (refine wpList_load_want (by rfl) 37 (.tmp 1) (by rfl) w.heap.size (by rfl) _ (stepA s) (0, 0) _ H12.out.2.1.b Tryz.underlying37 rfl (by rw [stepA_size]; exact infoSt) ?_)
     | (refine wpList_load_want (by rfl) 37 (.tmp 8) (by rfl) w10.heap.size (by rfl) _ (stepA s') (0, 0) _ H12.out.1 Tryz.underlying37 rfl (by rw [stepA_size]; exact infoSt) ?_))
     refine (HOK.out _ H12.out.2.1 H12.out.2.2.1 H12.out.2.2.2.1).mono ?_
     rintro e w13 ⟨rfl, hb13⟩
     have HB13 := qh (H12.out.2.2.2.2.trans (hb13.mono H12.out.2.2.2.2.size))
     clear hb13
     go_wp2_with fail
     go_ret
     exact ⟨by rw [HL.out]; rfl, HB13.out⟩
    ·have HL : Hid (ln = []) := qh (by rw [HLA.out, if_neg (fun h => hss (by cases h; exact HYS.out.symm))])
     rw [decide_eq_false hss] at HOK
     clear hss
     go_wp2_with (first
     | (refine wpList_alloc_as rfl 37 (by rfl) _ zeroSt ?_; intro w11 hw11; have HE11 := qh hw11; have HX11 : Hid (Blk w11 w10.heap.size 37 (stepA (sv Sc.z))) := (by rw [hw11]; exact qh (Blk.new _ _ _)); clear hw11)
     | (refine wpList_store_row_as rfl 37 (.tmp 8) (.tmp 63) (by rfl) w10.heap.size (stepA s') (by rfl) (by rfl) _ _ HX11.out (by rw [stepA_size]; exact infoSt) (by rw [stepA_size, stepA_size]) HI11.out.one ?_; intro w12 hw12; have H12 := qh (HF12.out w11 w12 HE11.out hw12); clear hw12)
     | (refine wpList_load_want (by rfl) 37 (.tmp 1) (by rfl) w.heap.size (by rfl) _ (stepA s) (0, 0) _ H12.out.2.1.b Tryz.underlying37 rfl (by rw [stepA_size]; exact infoSt) ?_)
     | (refine wpList_load_want (by rfl) 37 (.tmp 8) (by rfl) w10.heap.size (by rfl) _ (stepA s') (0, 0) _ H12.out.1 Tryz.underlying37 rfl (by rw [stepA_size]; exact infoSt) ?_))
     refine (HOK.out _ H12.out.2.1 H12.out.2.2.1 H12.out.2.2.2.1).mono ?_
     rintro e w13 ⟨rfl, hb13⟩
     have HB13 := qh (H12.out.2.2.2.2.trans (hb13.mono H12.out.2.2.2.2.size))
     clear hb13
     go_wp2_with fail
     go_ret
     exact ⟨by rw [HL.out]; rfl, HB13.out⟩
theorem line_none (s : StV) (w : World) (p16 : s.t.pf.addr.length = 16) (hi : s.t.is = false) (hk : s.t.kind < 0 ∨ 15 < s.t.kind) :
  Calls Tryz.prog 14 #[.agg (stepA s)] w fun e w' => e = .returned (.string (str (lineA s.t))) ∧ Below w.heap.size w w' := by
 have hw : Sc.wordOf s.t = none := by unfold Sc.wordOf; rw [if_neg (by rw [hi]; decide), if_neg (by omega)]
 have HL : Hid (lineA s.t = []) := qh (by have h0 : textA s.t = [] := by { unfold textA; rw [hw] }; unfold lineA; rw [h0]; split <;> rfl)
 have HS0 : Hid (∀ w1, w1 = w.alloc (.cells (stepA s) 37) → StAt w1 w.heap.size s) := qh fun w1 h => by subst h; exact ⟨Blk.new _ _ _, p16⟩
 have HI0 : Hid (s.t.is = false) := qh hi
 clear hi p16 hw
 rcases hk with hk | hk
 all_goals
  go_enter Tryz.func14, Tryz.ntmps14
  go_wp2_with (refine wpList_box_as rfl _ (.tmp 0) (by rfl) (stepA s) (by rfl) ?_; intro w1 E1; have HS1 := qh (HS0.out w1 E1); have HB1 : Hid (Below w.heap.size w w1) := (by rw [E1]; exact qh (belowA w _)); clear E1; have hz1 := HS1.out.lt; have cs0 := HS1.out.c0; have cs34 := HS1.out.c34; have cs1 := HS1.out.c1; rw [HI0.out] at cs0)
  go_ret
  exact ⟨by rw [HL.out]; rfl, HB1.out⟩
theorem names_le {k : Nat} {x : Hp.Wd} (h : Sc.names[k]? = some x) : x.length ≤ 1000 := by
 have hm := List.mem_of_getElem? h
 have : ∀ y ∈ Sc.names, y.length ≤ 1000 := by decide
 exact this x hm
theorem scr_Line (s : StV) (w : World) (ht : ST w) (hin : Inner (fun _ => True) w s) (p16 : s.t.pf.addr.length = 16) (hsb : SB s.t) (hj : (textA s.t).length ≤ 65536) :
  Calls Tryz.prog 14 #[.agg (stepA s)] w fun e w' => e = .returned (.string (str (lineA s.t))) ∧ Below w.heap.size w w' := by
 cases hi : s.t.is with
 | true =>
  obtain ⟨x, hx, hxl⟩ : ∃ x, Sc.wordOf s.t = some x ∧ x.length ≤ 1000 := by
   unfold Sc.wordOf
   rw [if_pos hi]
   split
   ·exact ⟨_, rfl, by decide⟩
   ·exact ⟨_, rfl, by decide⟩
  exact line_packet s w ht hin p16 hsb hi x hx (by unfold textA at hj; rw [hx] at hj; exact hj) hxl
 | false =>
  by_cases hk : 0 ≤ s.t.kind ∧ s.t.kind ≤ 15
  ·have hk16 : s.t.kind.toNat < 16 := by omega
   have hkd : s.t.kind = (s.t.kind.toNat : Int) := by omega
   obtain ⟨x, hx⟩ : ∃ x, Sc.names[s.t.kind.toNat]? = some x := ⟨_, List.getElem?_eq_getElem (by rw [names_len]; exact hk16)⟩
   have hwd : Sc.wordOf s.t = some x := by unfold Sc.wordOf; rw [if_neg (by rw [hi]; decide), if_pos hk]; exact hx
   exact line_op s w ht hin p16 hsb hi _ hk16 hkd x hx (by unfold textA at hj; rw [hwd] at hj; exact hj) (names_le hx)
  ·exact line_none s w p16 hi (by omega)
theorem wsA_eq {t : Sc.Stp} {x : Hp.Wd} (h : Sc.Part.H ∈ Sc.partsOf x → Hp.checkR t.hop = 0) : wsA t x = Sc.textW t x := by
 unfold wsA Sc.textW
 congr 1
 have : ∀ ps : List Sc.Part, (Sc.Part.H ∈ ps → Hp.checkR t.hop = 0) → ps.flatMap (fun p => shwA p t) = ps.flatMap (fun p => Sc.shw p t) := fun ps => by
  induction ps with
  | nil => intro _; rfl
  | cons p r ih =>
   intro hp
   rw [List.flatMap_cons, List.flatMap_cons, ih fun hm => hp (List.mem_cons_of_mem _ hm)]
   congr 1
   by_cases e : p = .H
   ·subst e
    have hv := hp List.mem_cons_self
    show Hp.spl (Hp.join (showWA t.hop)) = Hp.spl (Hp.showR t.hop)
    unfold Hp.showR
    rw [showWA_valid ((Hp.check_iff _).1 hv)]
   ·cases p <;> first | rfl | exact absurd rfl e
 exact this _ h
theorem parts_H : ∀ k, k < 16 → Sc.Part.H ∈ Sc.partsK.getD k [] → k = 8 := by decide
theorem line_noH {t : Sc.Stp} {x : Hp.Wd} (hw : Sc.wordOf t = some x) (hH : Sc.Part.H ∈ Sc.partsOf x) : t.is = false ∧ t.kind = 8 := by
 unfold Sc.wordOf at hw
 cases hi : t.is with
 | true =>
  rw [if_pos hi] at hw
  exfalso
  split at hw
  ·cases hw; exact absurd hH (by decide)
  ·cases hw; exact absurd hH (by decide)
 | false =>
  rw [if_neg (by rw [hi]; decide)] at hw
  split at hw
  ·rename_i hk
   have hlt : t.kind.toNat < 16 := by omega
   have hx : Sc.names.getD t.kind.toNat [] = x := by rw [List.getD_eq_getElem?_getD, hw]; rfl
   rw [← hx, Sc.partsOf_name hlt] at hH
   have := parts_H _ hlt hH
   exact ⟨rfl, by omega⟩
  ·cases hw
theorem lineA_eq (t : Sc.Stp) : lineA t = Sc.lineR t := by
 cases hw : Sc.wordOf t with
 | none =>
  have h1 : textA t = [] := by unfold textA; rw [hw]
  have h2 : Sc.textR t = [] := by unfold Sc.textR; rw [hw]
  unfold lineA Sc.lineR
  rw [h1, h2]
 | some x =>
  have h1 : textA t = Hp.join (wsA t x) := by unfold textA; rw [hw]
  have h2 : Sc.textR t = Hp.join (Sc.textW t x) := by unfold Sc.textR; rw [hw]
  by_cases hH : Sc.Part.H ∈ Sc.partsOf x → Hp.checkR t.hop = 0
  ·unfold lineA Sc.lineR
   rw [h1, h2, wsA_eq hH]
  ·have hm : Sc.Part.H ∈ Sc.partsOf x := Classical.byContradiction fun h => hH fun q => absurd q h
   have hc : Hp.checkR t.hop ≠ 0 := fun h => hH fun _ => h
   obtain ⟨hi, hk⟩ := line_noH hw hm
   unfold lineA Sc.lineR
   rw [if_neg (fun h => hc (Sc.one_hop h hi hk)), if_neg (fun h => hc (Sc.one_hop h hi hk))]
theorem elemSt : ElemBig Tryz.prog 59 37 36 248 := .mk Tryz.underlying59 (z := .agg (stepA (sv Sc.z))) (by kernel_rfl) (by omega) (by omega) (stepA_size _)
theorem step_cells {s : StV} (h : (stepA s).all (·.oneCell') = true) : ∀ u ∈ stepL s, u.oneCell' = true := fun u hu => by
 have := Array.all_eq_true'.1 h u (by unfold stepA; simpa using hu)
 exact this
def RetTake (T E : TypeId) (IN : (Nat → Prop) → World → StV → Prop) (Y : Nat → Prop) (W : World) (X : Nat) (o : Option Sc.Scr) (e : Ending) (w' : World) : Prop :=
 e = .returned (.bool o.isSome) ∧ W.grownBy w' (some X) ∧ ∀ y, o = some y → ∃ sts v, ScS T E IN Y W X y sts v w'
theorem ScS.app {T E : TypeId} {IN : (Nat → Prop) → World → StV → Prop} {Y : Nat → Prop} (G : Good IN) {W wr w4 : World} {X : Nat} {x : Sc.Scr} {sts : List StV} {v v4 : Value} (h : ScS T E IN Y W X x sts v wr) {s : StV} (hs : IN (fun b => Y b ∧ v.ownBlock ≠ some b) wr s) (hp : s.t.pf.addr.length = 16)
  (hown : w4.ownsRow W.heap.size E 36 v4 (sts.length + 1) (flat stepL sts ++ stepL s)) (hg : wr.grownBy w4 v.ownBlock) (hob : v4.ownBlock = v.ownBlock ∨ v4.ownBlock = some wr.heap.size) :
  ScS T E IN Y W X { x with steps := x.steps ++ [s.t] } (sts ++ [s]) v4 (w4.setCell ⟨X, 23, none⟩ v4) := by
 have hne := ownB_ne h.own h.XW
 have key : ∀ q : StV, IN (fun b => Y b ∧ v.ownBlock ≠ some b) wr q → IN (fun b => Y b ∧ v4.ownBlock ≠ some b) (w4.setCell ⟨X, 23, none⟩ v4) q := fun q hq => by
  have h1 := G.grown (G.bd hq) hg (fun b hb => hb.1.2)
  have h2 := G.imp h1 (r := fun b => Y b ∧ v4.ownBlock ≠ some b) (fun b hb => ⟨hb.1.1, fun e => by
   rcases hob with h9 | h9
   ·exact hb.1.2 (by rw [← h9]; exact e)
   ·rw [h9] at e; cases e; exact Nat.lt_irrefl _ hb.2⟩)
  exact G.grown h2 (grown_set w4 X 23 v4) (fun b hb e => by cases e; exact h.YX hb.1)
 refine ⟨?_, ?_, ?_, fun q hq => ?_, fun q hq => ?_, ?_, h.XW, h.YX⟩
 ·have h1 := (h.at_.grown hg hne).setV v4
  exact ⟨h1.b, h1.z.four, h1.z.six⟩
 ·rw [flat_append, List.length_append]
  have : flat stepL [s] = stepL s := by simp [flat]
  rw [this]; exact owns_grown hown (grown_set _ _ _ _) (fun k e => by cases e; exact h.XW)
 ·simp [h.st]
 ·rcases List.mem_append.1 hq with hq | hq
  ·exact key q (h.inn q hq)
  ·obtain rfl : q = s := by simpa using hq
   exact key q hs
 ·rcases List.mem_append.1 hq with hq | hq
  ·exact h.p16 q hq
  ·obtain rfl : q = s := by simpa using hq
   exact hp
 ·have hb : W.grownBy w4 (some X) := ⟨hg.os.trans h.gr.os, hg.tape.trans h.gr.tape, hg.output.trans h.gr.output, Nat.le_trans h.gr.size hg.size, fun k hk hn => by
   rw [hg.block k (Nat.lt_of_lt_of_le hk h.gr.size) (fun e => by have := ownB_ge h.own e.symm; omega)]
   exact h.gr.block k hk hn⟩
  exact grown_trans hb (grown_set _ _ _ _)
theorem infoStZ : ((Tryz.prog.info? 37).bind (·.zero)).map (·.cells.size) = some 36 := by kernel_rfl
theorem scr_take (Y : Nat → Prop) (W : World) (X : Nat) (x : Sc.Scr) (sts : List StV) (v : Value) (w : World) (l : List UInt8) (hl : l.length ≤ 65536) (hS : ScS 61 37 Inner Y W X x sts v w) (hX : SX X W) (hn : sts.length ≤ 1000) (hY : ∀ b, W.heap.size ≤ b → Y b) :
  Calls Tryz.prog 38 #[.pointer (some ⟨X, 0, none⟩), .string (str l)] w (RetTake 61 37 Inner Y W X (Sc.takeR x l)) := by
 have HST : Hid (∀ w', W.grownBy w' (some X) → ST w') := qh fun w' h => (hX.grown h).st
 have HW := qh fun W => scr_words l (by omega) W
 have hF := Fine8.spl hl
 have HRM := qh fun (W : World) (ht : ST W) v hv => scr_rooms (Hp.spl l) hF.1 hF.2.1 v W ht hv
 have HSF := qh fun (W : World) (ht : ST W) v hv => scr_self (Hp.spl l) hF.1 hF.2.1 v W ht hv
 have HON := qh fun W ht => scr_One l hl W ht
 have HO : Hid (Sc.takeR x l = match Sc.roomsR (Hp.spl l) with | some r => some { x with r1 := r.1, r2 := r.2.1, r3 := r.2.2 } | none => match Sc.selfR (Hp.spl l) with | some a => some { x with four := a.1, six := a.2 } | none => match Sc.oneR l with | some t => if x.steps.length = 1000 then none else some { x with steps := x.steps ++ [t] } | none => none) := qh rfl
 have HXL : Hid (x.steps.length = sts.length) := qh (by rw [← hS.st, List.length_map])
 have hXw := Nat.lt_of_lt_of_le hS.XW hS.gr.size
 have HS := qh hS
 clear hS hX hF
 generalize Sc.takeR x l = o at *
 generalize Sc.roomsR (Hp.spl l) = rr at *
 generalize Sc.selfR (Hp.spl l) = ss at *
 generalize Sc.oneR l = oo at *
 go_enter Tryz.func38, Tryz.ntmps38
 go_wp2_with fail
 refine (HW.out _).mono ?_
 rintro e w1 ⟨v1, rfl, ho1, hb1⟩
 have HS1 := qh (HS.out.next goodI hb1)
 have hz1 := hb1.size
 obtain ⟨p1, k1, rfl⟩ := owns_form ho1
 have HV1 := qh (SlR.of_owns encS_len ho1)
 clear hb1 ho1
 go_wp2_with fail
 refine (HRM.out _ (HST.out _ HS1.out.gr) _ HV1.out).mono ?_
 rintro e w2 ⟨rfl, hb2⟩
 have HS2 := qh (HS1.out.next goodI hb2)
 have HV2 := qh (HV1.out.below hb2 (Nat.le_refl _))
 have hz2 := hb2.size
 clear hb2
 have HK2 : Hid (∀ wa wb r, wa = w2.alloc (.cells (rmA (0, 0, 0)) 55) → wb = wa.setRow w2.heap.size (rmA r) → Blk wb w2.heap.size 55 (rmA r) ∧ Below w2.heap.size w2 wb) := qh fun wa wb r h1 h2 => by
  subst h1 h2
  exact ⟨(Blk.new _ _ _).setRow _, below_setRow (belowA _ _) (Nat.le_refl _) _⟩
 cases rr with
 | some r =>
  have HOK : Hid (o = some { x with r1 := r.1, r2 := r.2.1, r3 := r.2.2 }) := qh HO.out
  clear HO HSF HON
  go_wp2_with (first
   | (refine wpList_alloc_as rfl 55 (by rfl) _ zeroRm ?_; intro wa ha; have HEA := qh ha; clear ha)
   | (refine wpList_store_row_as rfl _ (.tmp 6) (.tmp 17) rfl w2.heap.size (rmA r) (by rfl) (by rfl) 55 (rmA (0, 0, 0)) (by rw [HEA.out]; exact Blk.new _ _ _) infoRm rfl (rmA_one _) ?_; intro wb hb; have HB3 := qh (HK2.out wa wb r HEA.out hb); have HS3 := qh (HS2.out.next goodI HB3.out.2); clear hb)
   | (refine wpList_load_want (by rfl) 55 (.tmp 6) (by rfl) w2.heap.size (by rfl) _ (rmA r) (0, 0) _ HB3.out.1 Tryz.underlying55 rfl infoRm ?_)
   | (refine wpList_store_mid_as (fun W' => Hid (ScS 61 37 Inner Y W X { x with r1 := r.1, r2 := r.2.1, r3 := r.2.2 } sts v W')) rfl _ _ _ rfl X 0 (rmA r) (by rfl) (by rfl) (HS3.out.at_.th (by show 0 + 3 ≤ 24; decide)) infoRm (rmA_one _) (qh (HS3.out.set goodI (grown_cells _ _ _ _) (HS3.out.at_.setRm r) rfl)) ?_; intro w4 H4))
  go_ret
  refine ⟨by rw [HOK.out]; rfl, H4.out.gr, fun y hy => ⟨sts, v, ?_⟩⟩
  rw [HOK.out] at hy
  cases hy
  exact H4.out
 | none =>
  go_wp2_with (first
   | (refine wpList_alloc_as rfl 55 (by rfl) _ zeroRm ?_; intro wa ha; have HEA := qh ha; clear ha)
   | (refine wpList_store_row_as rfl _ (.tmp 6) (.tmp 17) rfl w2.heap.size (rmA (0, 0, 0)) (by rfl) (by rfl) 55 (rmA (0, 0, 0)) (by rw [HEA.out]; exact Blk.new _ _ _) infoRm rfl (rmA_one _) ?_; intro wb hb; have HB3 := qh (HK2.out wa wb (0, 0, 0) HEA.out hb); have HS3 := qh (HS2.out.next goodI HB3.out.2); have HV3 := qh (HV2.out.below HB3.out.2 (Nat.le_refl _)); clear hb))
  refine (HSF.out _ (HST.out _ HS3.out.gr) _ HV3.out).mono ?_
  rintro e w4 ⟨a4, b4, ha4, hb4', rfl, hval, hb4⟩
  have HS4 := qh (HS3.out.next goodI hb4)
  have hz4 := hb4.size
  have HA4 := qh ha4
  have HA16 := qh hb4'
  have HVL := qh hval
  clear hb4 ha4 hb4' hval HEA
  have HI4 : Hid ((Tryz.prog.info? 58).map (·.size) = some (slA a4 b4).size) := qh (by rw [slA_size HA4.out HA16.out]; exact infoS)
  have HZ4 : Hid ((slA z4 z16).size = (slA a4 b4).size) := qh (by rw [slA_size HA4.out HA16.out]; rfl)
  have HK4 : Hid (∀ wa wb, wa = w4.alloc (.cells (slA z4 z16) 58) → wb = wa.setRow w4.heap.size (slA a4 b4) → Blk wb w4.heap.size 58 (slA a4 b4) ∧ Below w4.heap.size w4 wb) := qh fun wa wb h1 h2 => by
   subst h1 h2
   exact ⟨(Blk.new _ _ _).setRow _, below_setRow (belowA _ _) (Nat.le_refl _) _⟩
  cases ss with
  | some r =>
   have HOK : Hid (o = some { x with four := a4, six := b4 }) := qh (by rw [HO.out, HVL.out r rfl])
   clear HO HVL HON
   go_wp2_with (first
    | (refine wpList_alloc_as rfl 58 (by rfl) _ zeroS ?_; intro wa ha; have HEA := qh ha; clear ha)
    | (refine wpList_store_row_as rfl _ (.tmp 8) (.tmp 27) rfl w4.heap.size (slA a4 b4) (by rfl) (by rfl) 58 (slA z4 z16) (by rw [HEA.out]; exact Blk.new _ _ _) HI4.out HZ4.out (slA_one _ _) ?_; intro wb hb; have HB5 := qh (HK4.out wa wb HEA.out hb); have HS5 := qh (HS4.out.next goodI HB5.out.2); clear hb)
    | (refine wpList_load_want (by rfl) 58 (.tmp 8) (by rfl) w4.heap.size (by rfl) _ (slA a4 b4) (0, 0) _ HB5.out.1 Tryz.underlying58 rfl HI4.out ?_)
    | (refine wpList_store_mid_as (fun W' => Hid (ScS 61 37 Inner Y W X { x with four := a4, six := b4 } sts v W')) rfl _ _ _ rfl X 3 (slA a4 b4) (by rfl) (by rfl) (HS5.out.at_.th (by rw [slA_size HA4.out HA16.out]; decide)) HI4.out (slA_one _ _) (qh (HS5.out.set goodI (grown_cells _ _ _ _) (HS5.out.at_.setSl HA4.out HA16.out) rfl)) ?_; intro w6 H6))
   go_ret
   refine ⟨by rw [HOK.out]; rfl, H6.out.gr, fun y hy => ⟨sts, v, ?_⟩⟩
   rw [HOK.out] at hy
   cases hy
   exact H6.out
  | none =>
   clear HVL
   go_wp2_with (first
    | (refine wpList_alloc_as rfl 58 (by rfl) _ zeroS ?_; intro wa ha; have HEA := qh ha; clear ha)
    | (refine wpList_store_row_as rfl _ (.tmp 8) (.tmp 27) rfl w4.heap.size (slA a4 b4) (by rfl) (by rfl) 58 (slA z4 z16) (by rw [HEA.out]; exact Blk.new _ _ _) HI4.out HZ4.out (slA_one _ _) ?_; intro wb hb; have HB5 := qh (HK4.out wa wb HEA.out hb); have HS5 := qh (HS4.out.next goodI HB5.out.2); clear hb))
   refine (HON.out _ (HST.out _ HS5.out.gr)).mono ?_
   rintro e w6 ⟨s', rfl, hst, hp16, hi', hb6⟩
   have HS6 := qh (HS5.out.next goodI hb6)
   have hz6 := hb6.size
   have HSt := qh hst
   have HP16 := qh hp16
   have HI6 : Hid (Inner (fun b => Y b ∧ v.ownBlock ≠ some b) w6 s') := qh (hi'.imp fun b hb => ⟨hY b (Nat.le_trans HS5.out.gr.size hb), fun e => by have := ownB_ge HS5.out.own e; omega⟩)
   clear hst hp16 hi' hb6
   have HK6 : Hid (∀ wa wb, wa = w6.alloc (.cells (stepA (sv Sc.z)) 37) → wb = wa.setRow w6.heap.size (stepA s') → Blk wb w6.heap.size 37 (stepA s') ∧ Below w6.heap.size w6 wb ∧ wb.heap.size = w6.heap.size + 1) := qh fun wa wb h1 h2 => by
    subst h1 h2
    exact ⟨(Blk.new _ _ _).setRow _, below_setRow (belowA _ _) (Nat.le_refl _) _, by rw [World.setRow_alloc_new]; simp⟩
   cases oo with
   | none =>
    have HON2 : Hid (o = none) := qh HO.out
    clear HO
    go_wp2_with (first
     | (refine wpList_alloc_as rfl 37 (by rfl) _ zeroSt ?_; intro wa ha; have HEA2 := qh ha; clear ha)
     | (refine wpList_store_row_as rfl 37 (.tmp 10) (.tmp 37) (by rfl) w6.heap.size (stepA s') (by rfl) (by rfl) 37 (stepA (sv Sc.z)) (by rw [HEA2.out]; exact Blk.new _ _ _) (by rw [stepA_size]; exact infoSt) (by rw [stepA_size, stepA_size]) HI6.out.one ?_; intro wb hb; have HB7 := qh (HK6.out wa wb HEA2.out hb); have HS7 := qh (HS6.out.next goodI HB7.out.2.1); clear hb))
    go_ret
    exact ⟨by rw [HON2.out]; rfl, HS7.out.gr, fun y hy => by rw [HON2.out] at hy; cases hy⟩
   | some t =>
    have HT : Hid (s'.t = t) := qh HSt.out
    have HO2 : Hid (o = if sts.length = 1000 then none else some { x with steps := x.steps ++ [t] }) := qh (by rw [HO.out, HXL.out])
    clear HO HXL
    obtain ⟨pv, kv, hvf⟩ := owns_form HS6.out.own
    by_cases hfull : sts.length = 1000
    ·have HON2 : Hid (o = none) := qh (by rw [HO2.out, if_pos hfull])
     have hd : ((sts.length : Int) == 1000) = true := by rw [hfull]; rfl
     clear HO2 hfull
     go_wp2_with (first
      | (refine wpList_alloc_as rfl 37 (by rfl) _ zeroSt ?_; intro wa ha; have HEA2 := qh ha; clear ha)
      | (refine wpList_store_row_as rfl 37 (.tmp 10) (.tmp 37) (by rfl) w6.heap.size (stepA s') (by rfl) (by rfl) 37 (stepA (sv Sc.z)) (by rw [HEA2.out]; exact Blk.new _ _ _) (by rw [stepA_size]; exact infoSt) (by rw [stepA_size, stepA_size]) HI6.out.one ?_; intro wb hb; have HB7 := qh (HK6.out wa wb HEA2.out hb); have HS7 := qh (HS6.out.next goodI HB7.out.2.1); have c23 := HS7.out.at_.c23; rw [hvf] at c23; clear hb))
     go_ret
     exact ⟨by rw [HON2.out]; rfl, HS7.out.gr, fun y hy => by rw [HON2.out] at hy; cases hy⟩
    ·have HOK : Hid (o = some { x with steps := x.steps ++ [t] }) := qh (by rw [HO2.out, if_neg hfull])
     have hd : ((sts.length : Int) == 1000) = false := by simp only [beq_eq_false_iff_ne, ne_eq]; omega
     clear HO2 hfull
     go_upto_region 13 with (first
      | (refine wpList_alloc_as rfl 37 (by rfl) _ zeroSt ?_; intro wa ha; have HEA2 := qh ha; clear ha)
      | (refine wpList_store_row_as rfl 37 (.tmp 10) (.tmp 37) (by rfl) w6.heap.size (stepA s') (by rfl) (by rfl) 37 (stepA (sv Sc.z)) (by rw [HEA2.out]; exact Blk.new _ _ _) (by rw [stepA_size]; exact infoSt) (by rw [stepA_size, stepA_size]) HI6.out.one ?_; intro wb hb; have HB7 := qh (HK6.out wa wb HEA2.out hb); have HS7 := qh (HS6.out.next goodI HB7.out.2.1); have c23 := HS7.out.at_.c23; rw [hvf] at c23; clear hb))
     have HS8 := qh (HS7.out.next goodI (Below.refl wb.heap.size wb).drew)
     have HI8 := qh (goodI.below (goodI.below HI6.out HB7.out.2.1) (Below.refl wb.heap.size wb).drew)
     have hXb := HS8.out.at_.lt
     have hgz : X ≠ w6.heap.size := by have := HS6.out.at_.lt; omega
     have HBK := qh (HB7.out.1.below (Below.refl wb.heap.size wb).drew HB7.out.1.lt)
     have HNB : Hid (v.ownBlock ≠ some w6.heap.size) := qh fun e => by have := ownB_ge HS6.out.own e; omega
     have HP8 : Hid (s'.t.pf.addr.length = 16) := qh HP16.out
     clear c23 HSt HS7 HS6 HS5 HS4 HS3 HS2 HS1 HS HV1 HV2 HV3 HB3 HB5 HI6
     subst hvf
     refine wp_region_held_drew (S := fun W' => Blk W' w6.heap.size 37 (stepA s')) (by kernel_rfl) HBK.out (fun hHeld => ?_)
     refine kq 0 ?_; refine kq 1 ?_; refine kq 2 ?_; refine kq 3 ?_
     refine kY 5 rfl (zR rfl (w6.heap.size) rfl _ (stepA s') _ (fun w h => h) Tryz.underlying37 rfl (by rw [stepA_size]; exact infoSt)) ?_
     have c23 := HS8.out.at_.c23
     refine held_two (i := 4) (j := 6) rfl rfl (by kernel_rfl) (by rfl) (by rfl) (fun K hK => ?_) (fun K hK => ?_)
     ·go_simp
      refine hK.out _ _ hHeld (fun hHeld => ?_)
      clear hK K
      try simp only [qA, qB, qC, qD, qE, qF, qG]
      refine zS 6 fun K hK => ?_
      refine wp_build1 59 37 (.tmp 54) rfl (stepA s') rfl 36 (stepA_size s') (by decide) (by decide) Tryz.underlying59 infoSt infoStZ ?_
      have HZ9 := qh (belowA wb.drew (.cells (stepA s') 37))
      refine hK.out _ _ (hHeld.alloc _) (fun hHeld => ?_)
      clear hK K
      try simp only [qA, qB, qC, qD, qE, qF, qG]
      have HS9 := qh (HS8.out.next goodI HZ9.out)
      have HI9 := qh (goodI.below HI8.out HZ9.out)
      have hz9 : wb.heap.size ≤ (wb.drew.alloc (.cells (stepA s') 37)).heap.size := by simp
      refine zS 7 fun K hK => ?_
      refine wp_app_big elemSt _ _ rfl W.heap.size (.slice pv sts.length kv) sts.length _ rfl HS9.out.own ⟨wb.drew.heap.size, 0, none⟩ 1 1 (stepL s') rfl (stepL_len s') (news_new wb.drew (stepL s') _ _ rfl) (step_cells HI9.out.one) (by omega) HS9.out.gr.size ?_
      intro v4 w4 hown4 hgr4 hob4
      refine hK.out _ _ (hHeld.grownO hgr4 HNB.out) (fun hHeld => ?_)
      clear hK K
      try simp only [qA, qB, qC, qD, qE, qF, qG]
      obtain ⟨p4, k4, rfl⟩ := owns_form hown4
      have HN := qh (HS9.out.app goodI HI9.out HP8.out hown4 hgr4 hob4)
      have c4 := (HS9.out.at_.grown hgr4 (ownB_ne HS9.out.own HS9.out.XW)).c23
      have f4 := (HS9.out.at_.grown hgr4 (ownB_ne HS9.out.own HS9.out.XW)).fz 23
      clear hown4 hgr4 hob4
      refine kq 8 ?_; refine kq 9 ?_
      refine zS 10 fun K hK => ?_
      go_simp
      refine hK.out _ _ (Blk.other hHeld ⟨X, 23, none⟩ (.slice p4 (sts.length + 1) k4) hgz.symm) (fun hHeld => ?_)
      clear hK K
      try simp only [qA, qB, qC, qD, qE, qF, qG]
      refine zD ?_
      go_wp2_with fail
      go_ret
      refine ⟨by rw [HOK.out]; rfl, HN.out.gr, fun y hy => ⟨sts ++ [s'], .slice p4 (sts.length + 1) k4, ?_⟩⟩
      rw [HOK.out] at hy
      cases hy
      rw [← HT.out]
      exact HN.out
     ·refine wp_build1 59 37 (.tmp 54) rfl (stepA s') rfl 36 (stepA_size s') (by decide) (by decide) Tryz.underlying59 infoSt infoStZ ?_
      have HZ9 := qh (belowA wb.drew (.cells (stepA s') 37))
      refine hK.out _ _ (hHeld.alloc _) (fun hHeld => ?_)
      clear hK K
      try simp only [qA, qB, qC, qD, qE, qF, qG]
      have HS9 := qh (HS8.out.next goodI HZ9.out)
      have c24 : (wb.alloc (.cells (stepA s') 37)).drew.cell? ⟨X, 23, none⟩ = some (.slice pv sts.length kv) := HS9.out.at_.c23
      refine zS 4 fun K hK => ?_
      go_simp
      refine hK.out _ _ hHeld (fun hHeld => ?_)
      clear hK K
      try simp only [qA, qB, qC, qD, qE, qF, qG]
      have HI9 := qh (goodI.below HI8.out HZ9.out)
      have hz9 : wb.heap.size ≤ (wb.drew.alloc (.cells (stepA s') 37)).heap.size := by simp
      refine zS 7 fun K hK => ?_
      refine wp_app_big elemSt _ _ rfl W.heap.size (.slice pv sts.length kv) sts.length _ rfl HS9.out.own ⟨wb.drew.heap.size, 0, none⟩ 1 1 (stepL s') rfl (stepL_len s') (news_new wb.drew (stepL s') _ _ rfl) (step_cells HI9.out.one) (by omega) HS9.out.gr.size ?_
      intro v4 w4 hown4 hgr4 hob4
      refine hK.out _ _ (hHeld.grownO hgr4 HNB.out) (fun hHeld => ?_)
      clear hK K
      try simp only [qA, qB, qC, qD, qE, qF, qG]
      obtain ⟨p4, k4, rfl⟩ := owns_form hown4
      have HN := qh (HS9.out.app goodI HI9.out HP8.out hown4 hgr4 hob4)
      have c4 := (HS9.out.at_.grown hgr4 (ownB_ne HS9.out.own HS9.out.XW)).c23
      have f4 := (HS9.out.at_.grown hgr4 (ownB_ne HS9.out.own HS9.out.XW)).fz 23
      clear hown4 hgr4 hob4
      refine kq 8 ?_; refine kq 9 ?_
      refine zS 10 fun K hK => ?_
      go_simp
      refine hK.out _ _ (Blk.other hHeld ⟨X, 23, none⟩ (.slice p4 (sts.length + 1) k4) hgz.symm) (fun hHeld => ?_)
      clear hK K
      try simp only [qA, qB, qC, qD, qE, qF, qG]
      refine zD ?_
      go_wp2_with fail
      go_ret
      refine ⟨by rw [HOK.out]; rfl, HN.out.gr, fun y hy => ⟨sts ++ [s'], .slice p4 (sts.length + 1) k4, ?_⟩⟩
      rw [HOK.out] at hy
      cases hy
      rw [← HT.out]
      exact HN.out
end Go.Proofs.YtdbgeobolongmaaGreatDoor
