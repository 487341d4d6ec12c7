/- Part of the proof: contracts of the functions that the statements of layer 32 reach. -/
import Derived.Test.YtdbgeobolongmaaGreatDoorV22
set_option linter.unusedVariables false
set_option linter.unusedSimpArgs false
set_option maxRecDepth 100000
set_option maxHeartbeats 2000000
namespace Go.Proofs.YtdbgeobolongmaaGreatDoor
open Go.RowKit Go.Shelf Go.Proofs Go.OctetPlain Go.PrefixPlain
theorem waysP_app : ∀ a b : List Hp.Wd, Sc.waysP (a ++ b) = (match Sc.waysP a, Sc.waysP b with | some x, some y => some (x ++ y) | _, _ => none)
 | [], b => by simp only [List.nil_append, Sc.waysP]; cases Sc.waysP b <;> rfl
 | w :: a, b => by
  rw [List.cons_append, Sc.waysP, Sc.waysP, waysP_app a b]
  cases Sc.two 42 w with
  | none => rfl
  | some p => cases Sc.waysP a with
   | none => rfl
   | some x => cases Sc.waysP b <;> rfl
theorem waysP_next {l : List Hp.Wd} {k : Nat} (hk : k < l.length) {ws : List (Int × Int)} (h : Sc.waysP (l.take k) = some ws) :
  (∀ p, Sc.two 42 l[k] = some p → Sc.waysP (l.take (k + 1)) = some (ws ++ [p])) ∧ (Sc.two 42 l[k] = none → Sc.waysP l = none) := by
 have e1 : l.take (k + 1) = l.take k ++ [l[k]] := List.take_succ_eq_append_getElem hk
 refine ⟨fun p hp => ?_, fun hn => ?_⟩
 ·rw [e1, waysP_app, h]; simp [Sc.waysP, hp]
 ·have e2 : l = l.take (k + 1) ++ l.drop (k + 1) := (List.take_append_drop _ _).symm
  rw [e2, e1, waysP_app, waysP_app, h]
  simp [Sc.waysP, hn]
theorem grown_then {W w2 w4 : World} {ob : Option Nat} (h : W.grownBy w2 ob) (hb : Below W.heap.size w2 w4) : W.grownBy w4 ob :=
 ⟨hb.os.trans h.os, hb.tape.trans h.tape, hb.output.trans h.output, Nat.le_trans h.size hb.size, fun k hk hne => (hb.block k hk).trans (h.block k hk hne)⟩
structure WrS (W : World) (X : Nat) (s : StV) (l : List Hp.Wd) (k : Nat) (ws : List (Int × Int)) (v : Value) (wr : World) : Prop where
 S : StAt wr X { s with t := { s.t with ways := ws }, vw := v }
 own : wr.ownsRow W.heap.size 131 2 v ws.length (flat encWy ws)
 gr : W.grownBy wr (some X)
 eq : Sc.waysP (l.take k) = some ws
 len : ws.length ≤ k
theorem ways_read (lo hi : Nat) (w : World) : ReadOK .W 103 #[] lo hi w := by
 intro W X s v l Y hY hN ha hh ht hX hs hin hw hl hv
 obtain ⟨hw1, hw2⟩ := hw rfl
 simp only [List.append_toArray, List.append_nil]
 have HO : Hid (Sc.read .W s.t l = if l = [] then none else (Sc.waysP l).map fun r => ({ s.t with ways := r }, [])) := qh (by
  cases l with
  | nil => rfl
  | cons x r => simp only [Sc.read, hw1, List.nil_append]; rw [if_neg (by simp)]; cases Sc.waysP (x :: r) <;> rfl)
 generalize Sc.read .W s.t l = ro at *
 have hll : l.length ≤ 1048576 := hl.1
 have HX := qh hl.2.1
 have HT := qh ht
 have hXW := hs.lt
 have HIn := qh hin
 have hs0 : s = { s with t := { s.t with ways := [] }, vw := .slice none 0 0 } := by cases s; rename_i t a b c d; cases t; simp_all
 have HS0 : Hid (WrS W X s l 0 [] (.slice none 0 0) W) := qh ⟨by rw [← hs0]; exact hs, World.ownsRow_nil _ _ _ _, grown_refl _ _, rfl, Nat.le_refl _⟩
 obtain ⟨pp, cap, rfl, c1, c2, hR, hq⟩ := hv
 have HR := qh hR
 have HQ := qh hq
 clear hR hs hin ha hq ht hl hw hs0
 go_enter Tryz.func103, Tryz.ntmps103
 go_wp2_with fail
 go_loopw [7, 8, 9, 10, 13] (fun _ _ _ _ vi wr => ∃ (k : Nat) (ws : List (Int × Int)) (v : Value), vi = .int .i64 k ∧ k ≤ l.length ∧ Hid (WrS W X s l k ws v wr)) (fun _ _ _ _ vi _ => l.length - (intOf vi).toNat)
 case atStart => exact ⟨0, [], _, rfl, Nat.zero_le _, HS0⟩
 case round =>
  obtain ⟨k, ws, vw, rfl, hk, HU⟩ := hrel
  by_cases hlt : k < l.length
  ·have hwz := HU.out.gr.size
   obtain ⟨b, off, rfl, hbs, hcell⟩ := (HR.out.grown HU.out.gr fun a e hn h => hY _ (HQ.out a e hn) (by simpa using h.symm)).at hlt
   have hx := hcell 0 (.string (str l[k])) rfl
   simp only [Nat.mul_one, Nat.add_zero] at hx
   have hxl := HX.out l[k] (List.getElem_mem hlt)
   have HWN := qh (waysP_next hlt HU.out.eq)
   have HN := qh (scr_two 42 l[k] (by omega) wr (HT.out.grown HU.out.gr).st)
   have HTV := qh (fun p => two_val (c := 42) (x := l[k]) (p := p))
   have hul := HU.out.len
   generalize l[k] = x at *
   generalize twoA 42 x = A at *
   generalize twoB 42 x = B at *
   generalize Sc.two 42 x = on at *
   clear hcell hxl
   go_wp2_with fail
   refine HN.out.mono ?_
   rintro e w2 ⟨rfl, hb2⟩
   have HB2 := qh hb2
   have hw2 := hb2.size
   clear hb2
   cases on with
   | none =>
    have HL : Hid (ro = none) := qh (by rw [HO.out, HWN.out.2 rfl]; split <;> rfl)
    have HG : Hid (W.grownBy w2 (some X)) := qh (grown_trans HU.out.gr (grown_below HB2.out _))
    clear HWN HTV
    go_wp2_with fail
    exact bodyPost_ret (v := .tuple #[.slice none 0 0, .bool false]) (by simp [results, Tryz.results103, go_sem]) rfl (by rw [HL.out]; exact RetRead.none HG.out _)
   | some p =>
    obtain rfl := HTV.out p rfl
    have HW2 := qh (HWN.out.1 _ rfl)
    have HS2 : Hid (StAt w2 X { s with t := { s.t with ways := ws }, vw := vw }) := qh (HU.out.S.next HB2.out)
    have HO2 := qh (owns_below HU.out.own HB2.out (Nat.le_refl _))
    have c31 := HS2.out.c31
    simp only at c31
    have HGR := qh (grown_trans HU.out.gr (grown_below HB2.out _))
    clear HWN HTV HN
    go_wp2_with (first
     | (at_builtin; go_loud (refine wpList_app elemWy rfl (.tmp 30) (.tmp 34) rfl W.heap.size vw _ _ rfl HO2.out 1 1 [.int .i64 A, .int .i64 B] rfl rfl (by simp [Value.oneCell']) (by omega) (by omega) ?_; intro v4 w4 hown4 hgr4 hob4 hb4; obtain ⟨p4, k4, rfl⟩ := owns_form hown4; have HS4 := qh (HS2.out.below hb4 hXW); have HW4 := qh hown4; have HG4 := qh hgr4; have HB4 := qh hb4; have c4 := HS4.out.c31; have f4 := HS4.out.fz 31; simp only at c4; clear hown4 hgr4 hob4 hb4)))
    have HN4 : Hid (WrS W X s l (k + 1) (ws ++ [(A, B)]) (.slice p4 (ws.length + 1) k4) (w4.setCell ⟨X, 31, none⟩ (.slice p4 (ws.length + 1) k4))) := qh ⟨HS4.out.setW (ws ++ [(A, B)]) _, by rw [flat_append, List.length_append]; exact ownsRow_setCell_below HW4.out (by simp; omega) _, grown_trans (grown_then HGR.out HB4.out) (grown_set _ _ _ _), HW2.out, by simp; omega⟩
    exact ⟨⟨k + 1, ws ++ [(A, B)], _, by go_num, by omega, HN4⟩, by simp [intOf]; omega⟩
  ·obtain rfl : k = l.length := by omega
   have HE := HU.out.eq
   rw [List.take_length] at HE
   have HE := qh HE
   have HI : Hid (Inner Y wr { s with t := { s.t with ways := ws }, vw := vw }) := qh (by
    have h9 := HIn.out.grown HU.out.gr (fun b hb => by simp; exact fun h => hY b hb h.symm)
    exact ⟨h9.l, h9.r, (SlP.of_owns encWy_len HU.out.own).imp (fun b hb => hN b (by omega)), h9.b⟩)
   by_cases h0 : l = []
   ·subst h0
    have HL : Hid (ro = none) := qh (by rw [HO.out]; rfl)
    go_wp2_with fail
    exact bodyPost_ret (v := .tuple #[.slice none 0 0, .bool false]) (by simp [results, Tryz.results103, go_sem]) rfl (by rw [HL.out]; exact RetRead.none HU.out.gr _)
   ·have HL : Hid (ro = some ({ s.t with ways := ws }, [])) := qh (by rw [HO.out, if_neg h0, HE.out]; rfl)
    have hpos : 0 < l.length := List.length_pos_iff.2 h0
    clear h0
    go_wp2_with fail
    exact bodyPost_ret (v := .tuple #[.slice none 0 0, .bool true]) (by simp [results, Tryz.results103, go_sem]) rfl (by rw [HL.out]; exact RetRead.some HU.out.gr _ { s with t := { s.t with ways := ws }, vw := vw } [] HU.out.S HI.out (SlP.nil _ _ _) fun h => absurd rfl h)
theorem read_P (t : Sc.Stp) (x : Hp.Wd) (r : List Hp.Wd) : Sc.read .P t (x :: r) = if (parseP x).isSome = true ∧ showP ((parseP x).getD zP) = x then some ({ t with pf := (parseP x).getD zP }, r) else none := by
 simp only [Sc.read]
 cases parseP x with
 | none => simp
 | some p =>
  simp only [Option.isSome_some, true_and, Option.getD_some]
theorem parse_ok16 (x : Hp.Wd) : ((parseP x).getD zP).addr.length = 16 ∧ Len64 ((parseP x).getD zP) := by
 cases h : parseP x with
 | none => exact ⟨rfl, by unfold Len64 zP; decide⟩
 | some p =>
  refine ⟨Sc.parseP_16 h, ?_⟩
  unfold parseP at h
  cases ha : addr2 (Lib.cut x [47]).1 with
  | none => rw [ha] at h; cases h
  | some q =>
   obtain ⟨six, a⟩ := q
   rw [ha] at h
   cases hn : number (Lib.cut x [47]).2.1 128 with
   | none => rw [hn] at h; cases h
   | some n =>
    rw [hn] at h
    simp only at h
    split at h
    ·injection h with h
     subst h
     have := number_some.1 hn
     unfold Len64
     simp only [Option.getD_some]
     omega
    ·cases h
theorem prefixes_read (lo hi : Nat) (w : World) : ReadOK .P 106 #[] lo hi w := by
 intro W X s v l Y hY hN ha hh ht hX hs hin hw hl hv
 have HSX := qh ht
 replace ht := ht.st
 simp only [List.append_toArray, List.append_nil]
 cases l with
 | nil =>
  have HO : Hid (Sc.read .P s.t [] = none) := qh rfl
  rw [HO.out]
  obtain ⟨pp, cap, rfl, c1, c2, hR, hq⟩ := hv
  go_enter Tryz.func106, Tryz.ntmps106
  go_wp2_with fail
  exact bodyPost_ret (v := .tuple #[.slice none 0 0, .bool false]) (by simp [results, Tryz.results106, go_sem]) rfl (RetRead.none (grown_refl _ _) _)
 | cons x r =>
  have HO := qh (read_P s.t x r)
  generalize Sc.read .P s.t (x :: r) = ro at *
  have hxl := hl.2.1 x List.mem_cons_self
  have HN := qh (pfx_Parse x (by omega) W ht.p)
  obtain ⟨k1, k2⟩ := parse_ok16 x
  have K16 := qh k1
  have HPX := qh (PX.of k1)
  have HSH := qh fun W' (h : ST W') => pfx_Show ((parseP x).getD zP) k1 k2 W' h.p
  have HS := qh hs
  have HIn := qh hin
  obtain ⟨pp, cap, rfl, c1, c2, hR, hq⟩ := hv
  simp only [List.length_cons] at c1
  obtain ⟨b, off, rfl, hbl2, hc⟩ := hR.at (i := 0) (by simp)
  have hx := hc 0 (.string (str x)) rfl
  simp only [Nat.zero_mul, Nat.add_zero] at hx
  have hbY := hq _ rfl (by simp)
  have hbq := hY _ hbY
  have HR := qh hR
  have hl1 : r.length + 1 ≤ 1048576 := by have := hl.1; simpa using this
  have hn0 : ((r.length : Int) + 1 == 0) = false := by simp; omega
  have hXl := hs.lt
  clear hc hR hs hin ha hq ht hl k1 k2
  have HU := qh Tryz.underlying26
  generalize (parseP x).isSome = is at *
  generalize (parseP x).getD zP = q at *
  generalize showP q = sp at *
  obtain ⟨pa, hpa⟩ : ∃ pa : Array Value, pa = pfA q := ⟨_, rfl⟩
  have HPA := qh hpa
  rw [← hpa] at HN HPX HSH
  clear hpa
  go_enter Tryz.func106, Tryz.ntmps106
  go_wp2_with fail
  refine HN.out.mono ?_
  rintro e w1 ⟨rfl, hb1⟩
  have HS2 := qh ((HS.out.next hb1).alloc (.cells pa 26))
  have HB2 := qh (hb1.alloc hb1.size (.cells pa 26))
  have HBX := qh (Blk.new w1 26 pa)
  have hw1 := hb1.size
  clear hb1
  go_wp2_with (first
   | (refine wpList_store_new rfl _ _ _ rfl pa rfl rfl _ _ HPX.out.info HPX.out.size.symm HPX.out.one ?_)
   | (refine wpList_load_want rfl _ _ rfl w1.heap.size rfl _ pa (0, 0) _ HBX.out HU.out rfl HPX.out.info ?_)
   | (refine wpList_store_mid rfl _ _ _ rfl X 7 pa rfl rfl (HS2.out.th (by rw [HPX.out.size]; omega)) HPX.out.info HPX.out.one ?_))
  have HG5 : Hid (W.grownBy ((w1.alloc (.cells pa 26)).setCells X 7 pa.toList) (some X)) := qh (grown_trans (grown_below HB2.out _) (grown_sets _ _ _ _))
  have HS5 : Hid (StAt ((w1.alloc (.cells pa 26)).setCells X 7 pa.toList) X { s with t := { s.t with pf := q } }) := qh (by have := HS2.out.setP (p := q) K16.out; rw [← HPA.out] at this; exact this)
  have HB5 : Hid (Blk ((w1.alloc (.cells pa 26)).setCells X 7 pa.toList) w1.heap.size 26 pa) := qh (HBX.out.grown (grown_sets _ _ _ _) (by omega))
  have HV5 : Hid (RdP ((w1.alloc (.cells pa 26)).setCells X 7 pa.toList) 1 encS (some ⟨b, off, none⟩) (x :: r)) := qh (HR.out.grownS HG5.out fun a e => by cases e; simp; exact fun h => hbq h.symm)
  have HI5 : Hid (Inner Y ((w1.alloc (.cells pa 26)).setCells X 7 pa.toList) { s with t := { s.t with pf := q } }) := qh (by have h9 := HIn.out.grown HG5.out (fun b hb => by simp; exact fun h => hY b hb h.symm); exact ⟨h9.l, h9.r, h9.ws, h9.b⟩)
  have HST5 := qh (HSX.out.grown HG5.out).st
  generalize (w1.alloc (.cells pa 26)).setCells X 7 pa.toList = W5 at *
  have hX5 := HS5.out.lt
  obtain ⟨-, hbl5, hc5⟩ := HV5.out.2 _ rfl (by simp)
  have hx5 := hc5 0 x rfl 0 _ rfl
  simp only [Nat.zero_mul, Nat.add_zero] at hx5
  clear hc5 hx HS HIn HR HN HS2 HB2 HBX HPA HSX K16
  have h1le : (1 : Int) ≤ (r.length : Int) + 1 := by omega
  by_cases hcap : cap = 1
  ·subst hcap
   obtain rfl : r = [] := List.eq_nil_of_length_eq_zero (by omega)
   cases is with
   | false =>
    have HL : Hid (ro = none) := qh (by rw [HO.out]; exact if_neg (fun h => by cases h.1))
    refine wp_region_held_drew (S := fun W' => Below W5.heap.size W5 W') (by kernel_rfl) (Below.refl _ _).drew (fun hHeld => ?_)
    refine kq 0 ?_; refine kq 1 ?_; refine kq 2 ?_; refine kq 3 ?_; refine tn 4 ?_; refine tn 5 ?_; refine tn 6 ?_; refine tn 7 ?_; refine tn 8 ?_; refine tn 9 ?_; refine kq 10 ?_; refine kq 11 ?_; refine kq 12 ?_
    refine zD ?_
    go_wp2_with fail
    exact bodyPost_ret (v := .tuple #[.slice (some ⟨b, off, none⟩) 0 0, .bool false]) (by simp [results, Tryz.results106, go_sem]) rfl (by rw [HL.out]; exact RetRead.none (grown_then HG5.out (hHeld.mono HG5.out.size)) _)
   | true =>
    by_cases hq2 : sp = x
    ·have heq : (sp == x) = true := by simpa using hq2
     have HL : Hid (ro = some ({ s.t with pf := q }, [])) := qh (by rw [HO.out]; exact if_pos ⟨rfl, hq2⟩)
     clear hq2
     refine wp_region_held_drew (S := fun W' => Below W5.heap.size W5 W') (by kernel_rfl) (Below.refl _ _).drew (fun hHeld => ?_)
     refine kq 0 ?_; refine kq 1 ?_; refine kq 2 ?_; refine kq 3 ?_
     refine kY 4 rfl (zR rfl (w1.heap.size) rfl _ (pa) _ (fun w h => HB5.out.below h HB5.out.lt) HU.out rfl HPX.out.info) ?_
     refine kq 6 ?_; refine kq 7 ?_
     refine kq 8 ?_ (hy := by intro w h; have c := (h.cell (p := ⟨b, off, none⟩) hbl5).trans hx5; go_simp; try with_reducible rfl)
     refine zS 5 fun K hK => ?_
     go_simp
     refine (HSH.out _ (HST5.out.below hHeld)).mono ?_; rintro e w6 ⟨rfl, hb6⟩; have HV6 := hHeld.trans (hb6.mono hHeld.size)
     go_wp2_with fail
     refine hK.out _ _ (HV6) (fun hHeld => ?_)
     clear hK K
     try simp only [qA, qB, qC, qD, qE, qF, qG]
     refine kq 9 ?_ (hy := by intro w h; have z := heq; have z2 := str_tl; go_simp; try with_reducible rfl)
     refine kq 10 ?_; refine kq 11 ?_; refine kq 12 ?_
     refine zD ?_
     go_wp2_with fail
     exact bodyPost_ret (v := .tuple #[.slice (some ⟨b, off, none⟩) 0 0, .bool true]) (by simp [results, Tryz.results106, go_sem]) rfl (by rw [HL.out]; exact RetRead.some (grown_then HG5.out (hHeld.mono HG5.out.size)) _ _ [] (HS5.out.below hHeld hX5) (HI5.out.below hHeld (Nat.le_refl _)) ((SlP.tailA (by simp) HV5.out hbY).below hHeld (Nat.le_refl _)) (fun _ => rfl))
    ·have heq : (sp == x) = false := by simpa using hq2
     have HL : Hid (ro = none) := qh (by rw [HO.out]; exact if_neg (fun h => hq2 h.2))
     clear hq2
     refine wp_region_held_drew (S := fun W' => Below W5.heap.size W5 W') (by kernel_rfl) (Below.refl _ _).drew (fun hHeld => ?_)
     refine kq 0 ?_; refine kq 1 ?_; refine kq 2 ?_; refine kq 3 ?_
     refine kY 4 rfl (zR rfl (w1.heap.size) rfl _ (pa) _ (fun w h => HB5.out.below h HB5.out.lt) HU.out rfl HPX.out.info) ?_
     refine kq 6 ?_; refine kq 7 ?_
     refine kq 8 ?_ (hy := by intro w h; have c := (h.cell (p := ⟨b, off, none⟩) hbl5).trans hx5; go_simp; try with_reducible rfl)
     refine zS 5 fun K hK => ?_
     go_simp
     refine (HSH.out _ (HST5.out.below hHeld)).mono ?_; rintro e w6 ⟨rfl, hb6⟩; have HV6 := hHeld.trans (hb6.mono hHeld.size)
     go_wp2_with fail
     refine hK.out _ _ (HV6) (fun hHeld => ?_)
     clear hK K
     try simp only [qA, qB, qC, qD, qE, qF, qG]
     refine kq 9 ?_ (hy := by intro w h; have z := heq; have z2 := str_tl; go_simp; try with_reducible rfl)
     refine kq 10 ?_; refine kq 11 ?_; refine kq 12 ?_
     refine zD ?_
     go_wp2_with fail
     exact bodyPost_ret (v := .tuple #[.slice (some ⟨b, off, none⟩) 0 0, .bool false]) (by simp [results, Tryz.results106, go_sem]) rfl (by rw [HL.out]; exact RetRead.none (grown_then HG5.out (hHeld.mono HG5.out.size)) _)
  ·cases is with
   | false =>
    have HL : Hid (ro = none) := qh (by rw [HO.out]; exact if_neg (fun h => by cases h.1))
    refine wp_region_held_drew (S := fun W' => Below W5.heap.size W5 W') (by kernel_rfl) (Below.refl _ _).drew (fun hHeld => ?_)
    refine kq 0 ?_; refine kq 1 ?_; refine kq 2 ?_; refine kq 3 ?_; refine tn 4 ?_; refine tn 5 ?_; refine tn 6 ?_; refine tn 7 ?_; refine tn 8 ?_; refine tn 9 ?_; refine kq 10 ?_; refine kq 11 ?_; refine kq 12 ?_
    refine zD ?_
    go_wp2_with fail
    exact bodyPost_ret (v := .tuple #[.slice (some ⟨b, off + 1, none⟩) r.length (cap - 1), .bool false]) (by simp [results, Tryz.results106, go_sem]) rfl (by rw [HL.out]; exact RetRead.none (grown_then HG5.out (hHeld.mono HG5.out.size)) _)
   | true =>
    by_cases hq2 : sp = x
    ·have heq : (sp == x) = true := by simpa using hq2
     have HL : Hid (ro = some ({ s.t with pf := q }, r)) := qh (by rw [HO.out]; exact if_pos ⟨rfl, hq2⟩)
     clear hq2
     refine wp_region_held_drew (S := fun W' => Below W5.heap.size W5 W') (by kernel_rfl) (Below.refl _ _).drew (fun hHeld => ?_)
     refine kq 0 ?_; refine kq 1 ?_; refine kq 2 ?_; refine kq 3 ?_
     refine kY 4 rfl (zR rfl (w1.heap.size) rfl _ (pa) _ (fun w h => HB5.out.below h HB5.out.lt) HU.out rfl HPX.out.info) ?_
     refine kq 6 ?_; refine kq 7 ?_
     refine kq 8 ?_ (hy := by intro w h; have c := (h.cell (p := ⟨b, off, none⟩) hbl5).trans hx5; go_simp; try with_reducible rfl)
     refine zS 5 fun K hK => ?_
     go_simp
     refine (HSH.out _ (HST5.out.below hHeld)).mono ?_; rintro e w6 ⟨rfl, hb6⟩; have HV6 := hHeld.trans (hb6.mono hHeld.size)
     go_wp2_with fail
     refine hK.out _ _ (HV6) (fun hHeld => ?_)
     clear hK K
     try simp only [qA, qB, qC, qD, qE, qF, qG]
     refine kq 9 ?_ (hy := by intro w h; have z := heq; have z2 := str_tl; go_simp; try with_reducible rfl)
     refine kq 10 ?_; refine kq 11 ?_; refine kq 12 ?_
     refine zD ?_
     go_wp2_with fail
     exact bodyPost_ret (v := .tuple #[.slice (some ⟨b, off + 1, none⟩) r.length (cap - 1), .bool true]) (by simp [results, Tryz.results106, go_sem]) rfl (by rw [HL.out]; exact RetRead.some (grown_then HG5.out (hHeld.mono HG5.out.size)) _ _ r (HS5.out.below hHeld hX5) (HI5.out.below hHeld (Nat.le_refl _)) ((SlP.tailB c1 c2 HV5.out hbY).below hHeld (Nat.le_refl _)) (fun _ => rfl))
    ·have heq : (sp == x) = false := by simpa using hq2
     have HL : Hid (ro = none) := qh (by rw [HO.out]; exact if_neg (fun h => hq2 h.2))
     clear hq2
     refine wp_region_held_drew (S := fun W' => Below W5.heap.size W5 W') (by kernel_rfl) (Below.refl _ _).drew (fun hHeld => ?_)
     refine kq 0 ?_; refine kq 1 ?_; refine kq 2 ?_; refine kq 3 ?_
     refine kY 4 rfl (zR rfl (w1.heap.size) rfl _ (pa) _ (fun w h => HB5.out.below h HB5.out.lt) HU.out rfl HPX.out.info) ?_
     refine kq 6 ?_; refine kq 7 ?_
     refine kq 8 ?_ (hy := by intro w h; have c := (h.cell (p := ⟨b, off, none⟩) hbl5).trans hx5; go_simp; try with_reducible rfl)
     refine zS 5 fun K hK => ?_
     go_simp
     refine (HSH.out _ (HST5.out.below hHeld)).mono ?_; rintro e w6 ⟨rfl, hb6⟩; have HV6 := hHeld.trans (hb6.mono hHeld.size)
     go_wp2_with fail
     refine hK.out _ _ (HV6) (fun hHeld => ?_)
     clear hK K
     try simp only [qA, qB, qC, qD, qE, qF, qG]
     refine kq 9 ?_ (hy := by intro w h; have z := heq; have z2 := str_tl; go_simp; try with_reducible rfl)
     refine kq 10 ?_; refine kq 11 ?_; refine kq 12 ?_
     refine zD ?_
     go_wp2_with fail
     exact bodyPost_ret (v := .tuple #[.slice (some ⟨b, off + 1, none⟩) r.length (cap - 1), .bool false]) (by simp [results, Tryz.results106, go_sem]) rfl (by rw [HL.out]; exact RetRead.none (grown_then HG5.out (hHeld.mono HG5.out.size)) _)
theorem oneHopA (h : Hp.Hop) (p1 : Option Addr) (n1 c1 : Nat) (p2 : Option Addr) (n2 c2 : Nat) : (hopA h (.slice p1 n1 c1) (.slice p2 n2 c2)).all (·.oneCell') = true := by simp [hopA, Value.oneCell']
theorem hops_read (lo hi : Nat) (w : World) : ReadOK .H 100 #[] lo hi w := by
 intro W X s v l Y hY hN ha hh ht hX hs hin hw hl hv
 replace ht := ht.st
 simp only [List.append_toArray, List.append_nil]
 have HO : Hid (Sc.read .H s.t l = (Hp.parseR (Hp.join l)).map fun h => ({ s.t with hop := h }, [])) := qh (by
  have : Sc.read .H s.t l = (match Hp.parseR (Hp.join l) with | some h => some ({ s.t with hop := h }, []) | none => none) := by cases l <;> rfl
  rw [this]; cases Hp.parseR (Hp.join l) <;> rfl)
 generalize Sc.read .H s.t l = ro at *
 have HJ := qh (joinS_any l hl.1 (by have := hl.2.2; omega) v W hv.sl)
 have HC := qh fun W' (h : Below W.heap.size W W') => hop_Parse (Hp.join l) (by have := hl.2.2; omega) W' (ht.below h).p.tabs (ht.below h).p.ct.ml
 have HS := qh hs
 have HIn := qh hin
 have hXl := hs.lt
 have hv2 : ∃ p n c, v = .slice p n c := by obtain ⟨p, c, rfl, _⟩ := hv; exact ⟨p, _, c, rfl⟩
 obtain ⟨pv, nv, cv, rfl⟩ := hv2
 have HU := qh Tryz.underlying29
 clear hs hin ha ht hl hv hw
 generalize Hp.join l = jl at *
 go_enter Tryz.func100, Tryz.ntmps100
 go_wp2_with fail
 refine HJ.out.mono ?_
 rintro e w1 ⟨rfl, hb1⟩
 have HB1 := qh hb1
 clear hb1
 go_wp2_with fail
 refine (HC.out w1 HB1.out).mono ?_
 rintro e w2 ⟨hl2, hr2, rfl, hf, hb2⟩
 have hls : ∃ p n c, hl2 = .slice p n c := by obtain ⟨p, c, e, _⟩ := hf.sl; exact ⟨p, _, c, e⟩
 have hrs : ∃ p n c, hr2 = .slice p n c := by obtain ⟨p, c, e, _⟩ := hf.sr; exact ⟨p, _, c, e⟩
 obtain ⟨q1, n1, k1, rfl⟩ := hls
 obtain ⟨q2, n2, k2, rfl⟩ := hrs
 have HB2 := qh (HB1.out.trans (hb2.mono HB1.out.size))
 have hz1 := HB1.out.size
 have hz2 := HB2.out.size
 have HF := qh hf
 have HOO := qh (fun h => (fun e : Hp.parseR jl = some h => HO.out.trans (by rw [e])))
 have HON := qh (fun e : Hp.parseR jl = none => HO.out.trans (by rw [e]))
 have HIS := qh (fun h => (fun e : Hp.parseR jl = some h => (congrArg Option.isSome e : (Hp.parseR jl).isSome = true)))
 obtain ⟨po, hpo⟩ : ∃ po, Hp.parseR jl = po := ⟨_, rfl⟩
 rw [hpo] at HF HOO HON HIS
 clear hf hb2 HC HO
 simp only [hpo]
 clear hpo
 obtain ⟨h0, hh0⟩ : ∃ h0, po.getD ⟨0, [], 0, 0, [], false⟩ = h0 := ⟨_, rfl⟩
 rw [hh0] at HF
 have HH0 := qh hh0
 simp only [hh0]
 clear hh0
 obtain ⟨pa, hpa⟩ : ∃ pa : Array Value, pa = hopA h0 (.slice q1 n1 k1) (.slice q2 n2 k2) := ⟨_, rfl⟩
 have h6 : Hid (pa.size = 6) := qh (by rw [hpa]; rfl)
 have hin6 : Hid ((Tryz.prog.info? 29).map (·.size) = some pa.size) := qh (by rw [h6.out]; kernel_rfl)
 have hone : Hid (pa.all (·.oneCell') = true) := qh (by rw [hpa]; exact oneHopA _ _ _ _ _ _ _)
 have HPA := qh hpa
 rw [← hpa]
 clear hpa
 have HS2 := qh ((HS.out.next HB2.out).alloc (.cells pa 29))
 have HBX := qh (Blk.new w2 29 pa)
 go_wp2_with (first
  | (refine wpList_store_new rfl _ _ _ rfl pa rfl rfl _ _ hin6.out h6.out.symm hone.out ?_)
  | (refine wpList_load_want rfl _ _ rfl w2.heap.size rfl _ pa (0, 0) _ HBX.out HU.out rfl hin6.out ?_)
  | (refine wpList_store_mid rfl _ _ _ rfl X 25 pa rfl rfl (HS2.out.th (by rw [h6.out]; omega)) hin6.out hone.out ?_))
 have HG : Hid (W.grownBy ((w2.alloc (.cells pa 29)).setCells X 25 pa.toList) (some X)) := qh (grown_trans (grown_below (HB2.out.alloc HB2.out.size _) _) (grown_sets _ _ _ _))
 cases po with
 | none => exact bodyPost_ret (v := .tuple #[.slice none 0 0, .bool false]) (by simp [results, Tryz.results100, go_sem]) rfl (by rw [HON.out rfl]; exact RetRead.none HG.out _)
 | some h =>
  obtain rfl := HH0.out
  have e2 : (w2.alloc (.cells pa 29)).grownBy ((w2.alloc (.cells pa 29)).setCells X 25 pa.toList) (some X) := grown_sets _ _ _ _
  have r1 := (((HF.out.sl.below (belowA w2 (.cells pa 29)) (Nat.le_refl _)).grown e2 (fun b hb => by simp; omega)).imp (Qr := Y) (fun b hb => hN b (by omega)))
  have r2 := (((HF.out.sr.below (belowA w2 (.cells pa 29)) (Nat.le_refl _)).grown e2 (fun b hb => by simp; omega)).imp (Qr := Y) (fun b hb => hN b (by omega)))
  have h9 := HIn.out.grown HG.out (fun b hb => by simp; exact fun h => hY b hb h.symm)
  have hst := HS2.out.setH h (.slice q1 n1 k1) (.slice q2 n2 k2)
  have e3 : hopA h (.slice q1 n1 k1) (.slice q2 n2 k2) = pa := HPA.out.symm
  rw [e3] at hst
  exact bodyPost_ret (v := .tuple #[.slice none 0 0, .bool true]) (by simp [results, Tryz.results100, go_sem]) rfl (by rw [HOO.out h rfl]; exact RetRead.some HG.out _ _ [] hst ⟨r1, r2, h9.ws, h9.b⟩ (SlP.nil _ _ _) (fun _ => rfl))
end Go.Proofs.YtdbgeobolongmaaGreatDoor
