/- Part of the proof: contracts of the functions that the statements of layer 32 reach. -/
import Derived.KernelRfl
import Derived.Test.YtdbgeobolongmaaGreatDoorV09
import Derived.Test.YtdbgeobolongmaaGreatDoorV38
set_option linter.unusedVariables false
set_option linter.unusedSimpArgs false
set_option maxRecDepth 100000
set_option maxHeartbeats 4000000
namespace Go.Proofs.YtdbgeobolongmaaGreatDoor
open Go.RowKit Go.Shelf Go.Proofs Go.OctetPlain Go.PrefixPlain
theorem joinC_any (c : UInt8) (ws : List Hp.Wd) (hw : ws.length ≤ 1048576) (hll : (Lib.join ws [c]).length ≤ 140737488355328) (v : Value) (w : World) (hv : SlR w 1 encS v ws) :
  Calls Tryz.prog 34 #[v, .string ⟨#[c]⟩] w fun e w' => e = .returned (.string (str (Lib.join ws [c]))) ∧ Below w.heap.size w w' := by
 obtain ⟨p, cap, rfl, hd1, hd2, hR⟩ := hv
 have hjs : Lib.join ((ws.map str).map (·.data.toList)) (⟨#[c]⟩ : ByteArray).data.toList = Lib.join ws [c] := by
  rw [List.map_map]
  have : (fun s : ByteArray => s.data.toList) ∘ str = id := by funext l; exact list_str l
  rw [this, List.map_id]
 cases p with
 | none =>
  have h0 := hR.1 rfl
  have hL0 : ws = [] := List.eq_nil_of_length_eq_zero (by omega)
  subst hL0
  exact (Any.strings_Join_none Tryz.join joinExtraH none cap ⟨#[c]⟩ w).mono fun e w' h => ⟨h.1, by rw [h.2]; exact Below.refl _ _⟩
 | some a =>
  by_cases hl0 : ws.length = 0
  ·have hL0 : ws = [] := List.eq_nil_of_length_eq_zero hl0
   subst hL0
   exact (Any.strings_Join_none Tryz.join joinExtraH (some a) cap ⟨#[c]⟩ w).mono fun e w' h => ⟨h.1, by rw [h.2]; exact Below.refl _ _⟩
  obtain ⟨hsp, hbk, hcl⟩ := hR.2 a rfl hl0
  have ha : a = ⟨a.block, a.off, none⟩ := by cases a; simp only at hsp; subst hsp; rfl
  have hcon := Any.strings_Join Tryz.join joinExtraH a.block a.off cap (ws.map str) ⟨#[c]⟩ w (fun j x hx => by
   rw [List.getElem?_map] at hx
   cases hy : ws[j]? with
   | none => rw [hy] at hx; cases hx
   | some y =>
    rw [hy] at hx
    cases hx
    have := hcl j y hy 0 (.string (str y)) rfl
    simpa using this) hbk (by simp; omega) (by simpa using hd1) (by rw [hjs]; exact hll)
  rw [hjs, List.length_map] at hcon
  rw [ha]
  exact hcon
theorem join_body : ∀ (ws : List Hp.Wd), ws ≠ [] → Lib.join ws [10] ++ [10] = Sc.body ws
 | [], h => absurd rfl h
 | [w], _ => by rw [Lib.join_one]; rfl
 | w :: v :: ws, _ => by
  have ih := join_body (v :: ws) (by simp)
  rw [Sc.body, ← ih]
  simp [Lib.join]
theorem rooms_text (x : Sc.Scr) : ((((⟨#[114, 111, 111, 109, 115, 32]⟩ : ByteArray) ++ str (Lib.itoa x.r1)) ++ ⟨#[32]⟩) ++ str (Lib.itoa x.r2)) ++ ⟨#[32]⟩ ++ str (Lib.itoa x.r3) = str (Sc.roomsL x) := by
 have e1 : (⟨#[114, 111, 111, 109, 115, 32]⟩ : ByteArray) = str [114, 111, 111, 109, 115, 32] := rfl
 have e2 : (⟨#[32]⟩ : ByteArray) = str [32] := rfl
 rw [e1, e2]
 simp only [str_app]
 congr 1
 simp [Sc.roomsL, Hp.join, Sc.wRooms]
theorem self_text (x : Sc.Scr) : (((⟨#[115, 101, 108, 102, 32]⟩ : ByteArray) ++ str (showD x.four)) ++ ⟨#[32]⟩) ++ str (ColonPlain.show_ x.six) = str (Sc.selfL x) := by
 have e1 : (⟨#[115, 101, 108, 102, 32]⟩ : ByteArray) = str [115, 101, 108, 102, 32] := rfl
 have e2 : (⟨#[32]⟩ : ByteArray) = str [32] := rfl
 rw [e1, e2]
 simp only [str_app]
 congr 1
 simp [Sc.selfL, Hp.join, Sc.wSelf]
theorem dot_show (l : List UInt8) (hl : l.length = 4) (w : World) (ht : Tabs w) :
  Calls Tryz.prog 42 #[.agg (cellsB l).toArray] w fun e w' => e = .returned (.string (str (showD l))) ∧ Below w.heap.size w w' := by
 obtain ⟨a, b, c, d, rfl⟩ : ∃ a b c d, l = [a, b, c, d] := by
  match l, hl with
  | [a, b, c, d], _ => exact ⟨a, b, c, d, rfl⟩
 exact dotted_Show a b c d w ht
structure ShW (w : World) (base : Nat) (x : Sc.Scr) (sa : List StV) (va : Value) (k : Nat) (vl : Value) (wr : World) : Prop where
 I : InS w x sa va wr
 own : wr.ownsRow base 9 1 vl (2 + k) (flat encS ([Sc.roomsL x, Sc.selfL x] ++ (sa.take k).map fun s => Sc.lineR s.t))
 ne : ∀ s ∈ sa.take k, Sc.lineR s.t ≠ []
 hb : w.heap.size + 1 ≤ base
 bz : base ≤ wr.heap.size
theorem ShW.next {w wr w' : World} {base : Nat} {x : Sc.Scr} {sa : List StV} {va : Value} {k : Nat} {vl : Value} (h : ShW w base x sa va k vl wr) (hb : Below wr.heap.size wr w') : ShW w base x sa va k vl w' :=
 ⟨h.I.next hb, owns_below h.own hb (Nat.le_refl _), h.ne, h.hb, Nat.le_trans h.bz hb.size⟩
theorem run_rmC (r q : Int × Int × Int) (w : World) : (Op.equalIn 10000 55 (.agg (rmA r)) (.agg (rmA q))).run Tryz.prog w = .ok (decide (r = q)) w := by
 have u3 := Tryz.underlying3
 have a3 := Tryz.isAgg3
 have z3 := Tryz.sizeOf3
 have hS : Tryz.prog.underlying 55 = some (.struct (Tryz.prog.fieldsOf 55)) := by kernel_rfl
 have hp : Tryz.prog.stoodInHeld 55 = false := by kernel_rfl
 obtain ⟨a, b, c⟩ := r
 obtain ⟨d, e, f⟩ := q
 unfold rmA
 rw [show (10000 : Nat) = 9999 + 1 from rfl, run_equalIn_agg w 9999 55 _ _ hS hp]
 simp only [Program.fieldsOf, Tryz.underlying55]
 go_simp
 by_cases h1 : a = d <;> by_cases h2 : b = e <;> by_cases h3 : c = f <;> simp [h1, h2, h3]
theorem scr_Show (x : Sc.Scr) (sa : List StV) (va : Value) (w : World) (ht : ST w) (z : Sc.Sized x) (hst : sa.map (·.t) = x.steps) (hsl : SlP (· < w.heap.size) w 36 stepL va sa) (hin : ∀ s ∈ sa, Inner (· < w.heap.size) w s) (hp16 : ∀ s ∈ sa, s.t.pf.addr.length = 16) (h1 : I64 x.r1) (h2 : I64 x.r2) (h3 : I64 x.r3)
  (D : ∀ s ∈ sa, SB s.t ∧ (textA s.t).length ≤ 65536) (na : sa.length ≤ 1000000) (hT : (Sc.body (Sc.linesOf x)).length ≤ 1000000) :
  Calls Tryz.prog 21 #[.agg (scA x va)] w fun e w' => e = .returned (.string (str (Sc.showX x))) ∧ Below w.heap.size w w' := by
 have HS0 : Hid (∀ w1, w1 = w.alloc (.cells (scA x va) 61) → InS w x sa va w1 ∧ w1.heap.size = w.heap.size + 1) := qh fun w1 h => by subst h; exact ⟨InS.new z hsl hin, by simp⟩
 have HT := qh fun (W : World) (hb : Below w.heap.size w W) => ht.below hb
 have HD1 := qh fun (W : World) (hb : Below w.heap.size w W) => octet_Digits x.r1 h1 W (HT.out W hb).p.tabs
 have HD2 := qh fun (W : World) (hb : Below w.heap.size w W) => octet_Digits x.r2 h2 W (HT.out W hb).p.tabs
 have HD3 := qh fun (W : World) (hb : Below w.heap.size w W) => octet_Digits x.r3 h3 W (HT.out W hb).p.tabs
 have HF := qh fun (W : World) (hb : Below w.heap.size w W) => dot_show x.four z.four W (HT.out W hb).p.tabs
 have HX := qh fun (W : World) (hb : Below w.heap.size w W) => colon_Show x.six z.six W (HT.out W hb).p.ct
 have l1 := itoa_leI h1
 have l2 := itoa_leI h2
 have l3 := itoa_leI h3
 have l4 : (showD x.four).length ≤ 1000 := Nat.le_trans (showD_le z.four) (by decide)
 have l5 : (ColonPlain.show_ x.six).length ≤ 1000 := Nat.le_trans (ColonPlain.show_le z.six).2 (by decide)
 have HI4 := qh (show (Tryz.prog.info? 56).map (·.size) = some (cellsB x.four).length from by rw [cellsB_len, z.four]; kernel_rfl)
 have HI6 := qh (info16' z.six)
 have HRT := qh (rooms_text x)
 have HST := qh (self_text x)
 generalize hE1 : Lib.itoa x.r1 = e1 at *
 clear hE1
 generalize hE2 : Lib.itoa x.r2 = e2 at *
 clear hE2
 generalize hE3 : Lib.itoa x.r3 = e3 at *
 clear hE3
 generalize hE4 : showD x.four = e4 at *
 clear hE4
 generalize hE5 : ColonPlain.show_ x.six = e5 at *
 clear hE5
 have z1 := str_size e1
 have z2 := str_size e2
 have z3 := str_size e3
 have z4 := str_size e4
 have z5 := str_size e5
 obtain ⟨T4, hT4⟩ : ∃ T, T = (⟨#[114, 111, 111, 109, 115, 32]⟩ : ByteArray) ++ str e1 := ⟨_, rfl⟩
 have y4 : T4.size = 6 + (str e1).size := by rw [hT4, ByteArray.size_append]; try rfl
 obtain ⟨T5, hT5⟩ : ∃ T, T = T4 ++ (⟨#[32]⟩ : ByteArray) := ⟨_, rfl⟩
 have y5 : T5.size = T4.size + 1 := by rw [hT5, ByteArray.size_append]; try rfl
 obtain ⟨T10, hT10⟩ : ∃ T, T = T5 ++ str e2 := ⟨_, rfl⟩
 have y10 : T10.size = T5.size + (str e2).size := by rw [hT10, ByteArray.size_append]; try rfl
 obtain ⟨T11, hT11⟩ : ∃ T, T = T10 ++ (⟨#[32]⟩ : ByteArray) := ⟨_, rfl⟩
 have y11 : T11.size = T10.size + 1 := by rw [hT11, ByteArray.size_append]; try rfl
 have HT16 : Hid (T11 ++ str e3 = str (Sc.roomsL x)) := qh (by rw [hT11, hT10, hT5, hT4]; exact HRT.out)
 obtain ⟨T21, hT21⟩ : ∃ T, T = (⟨#[115, 101, 108, 102, 32]⟩ : ByteArray) ++ str e4 := ⟨_, rfl⟩
 have y21 : T21.size = 5 + (str e4).size := by rw [hT21, ByteArray.size_append]; try rfl
 obtain ⟨T22, hT22⟩ : ∃ T, T = T21 ++ (⟨#[32]⟩ : ByteArray) := ⟨_, rfl⟩
 have y22 : T22.size = T21.size + 1 := by rw [hT22, ByteArray.size_append]; try rfl
 have HT27 : Hid (T22 ++ str e5 = str (Sc.selfL x)) := qh (by rw [hT22, hT21]; exact HST.out)
 have HT4 := qh hT4
 have HT5 := qh hT5
 have HT10 := qh hT10
 have HT11 := qh hT11
 have HT21 := qh hT21
 have HT22 := qh hT22
 clear hT4 hT5 hT10 hT11 hT21 hT22 HRT HST
 have HLN : Hid (∀ s ∈ sa, ∀ W, InS w x sa va W → Calls Tryz.prog 14 #[.agg (stepA s)] W fun e w' => e = .returned (.string (str (Sc.lineR s.t))) ∧ Below W.heap.size W w') := qh fun s hs W h => by
  have := scr_Line s W (HT.out W h.bel) ((h.inn s hs).imp fun _ _ => trivial) (hp16 s hs) (D s hs).1 (D s hs).2
  rw [lineA_eq] at this
  exact this
 have HLL : Hid (∀ s ∈ sa, (Sc.lineR s.t).length ≤ 65536) := qh fun s hs => by
  rw [← lineA_eq]
  unfold lineA
  split
  ·exact (D s hs).2
  ·exact Nat.zero_le _
 have HTOT : Hid (Sc.linesOf x = [Sc.roomsL x, Sc.selfL x] ++ sa.map fun s => Sc.lineR s.t) := qh (by
  unfold Sc.linesOf
  rw [← hst, List.map_map]; rfl)
 obtain ⟨pa, ca, hva, -⟩ := hsl
 have HVA := qh hva
 have HST2 := qh hst
 have HZ := qh z
 have HON : Hid (∀ s ∈ sa, ∀ W, InS w x sa va W → (stepA s).all (·.oneCell') = true) := qh fun s hs W h => goodI.one (h.inn s hs)
 clear hva hst hin hp16 D z
 go_enter Tryz.func21, Tryz.ntmps21
 go_upto_region 1 with (refine wpList_box_as (w := w) rfl _ (.tmp 0) (by rfl) (scA x va) (by rfl) ?_; intro w1 E1; have HS := qh (HS0.out w1 E1).1; have hz1 := (HS0.out w1 E1).2; clear E1)
 have HD : Hid (InS w x sa va w1.drew) := qh (HS.out.next ((Below.refl _ _).drew))
 refine wp_region_held_drew (S := InS w x sa va) (by kernel_rfl) HD.out (fun hHeld => ?_)
 refine kq 0 ?_; refine kq 1 ?_
 refine kq 2 ?_ (hy := by intro w h; have c := h.A.c0; go_simp; try with_reducible rfl)
 refine kq 6 ?_; refine kq 7 ?_
 refine kq 8 ?_ (hy := by intro w h; have c := h.A.c1; go_simp; try with_reducible rfl)
 refine kq 12 ?_; refine kq 13 ?_
 refine kq 14 ?_ (hy := by intro w h; have c := h.A.c2; go_simp; try with_reducible rfl)
 refine kq 17 ?_; refine kq 18 ?_
 refine kY 19 rfl (yieldsIf_load_mid (by rfl) _ _ rfl (w.heap.size) (3) rfl (cellsB x.four) _ (fun w h => h.A.fourR) Tryz.underlying56 rfl (HI4.out)) ?_
 refine kq 23 ?_; refine kq 24 ?_
 refine kY 25 rfl (yieldsIf_load_mid (by rfl) _ _ rfl (w.heap.size) (7) rfl (cellsB x.six) _ (fun w h => h.A.sixR) Tryz.underlying24 rfl (HI6.out)) ?_
 refine zS 3 fun K hK => ?_
 go_simp
 refine (HD1.out _ hHeld.bel).mono ?_; rintro e w9 ⟨rfl, hb9⟩; have HV9 := hHeld.next hb9
 go_wp2_with fail
 refine hK.out _ _ (HV9) (fun hHeld => ?_)
 clear hK K
 try simp only [qA, qB, qC, qD, qE, qF, qG]
 refine kq 4 ?_ (v := .string T4) (hy := by intro w hSw; go_simp; try (rw [if_neg (by omega), HT4.out]))
 refine kq 5 ?_ (v := .string T5) (hy := by intro w hSw; go_simp; try (rw [if_neg (by omega), HT5.out]))
 refine zS 9 fun K hK => ?_
 go_simp
 refine (HD2.out _ hHeld.bel).mono ?_; rintro e w9 ⟨rfl, hb9⟩; have HV9 := hHeld.next hb9
 go_wp2_with fail
 refine hK.out _ _ (HV9) (fun hHeld => ?_)
 clear hK K
 try simp only [qA, qB, qC, qD, qE, qF, qG]
 refine kq 10 ?_ (v := .string T10) (hy := by intro w hSw; go_simp; try (rw [if_neg (by omega), HT10.out]))
 refine kq 11 ?_ (v := .string T11) (hy := by intro w hSw; go_simp; try (rw [if_neg (by omega), HT11.out]))
 refine zS 15 fun K hK => ?_
 go_simp
 refine (HD3.out _ hHeld.bel).mono ?_; rintro e w9 ⟨rfl, hb9⟩; have HV9 := hHeld.next hb9
 go_wp2_with fail
 refine hK.out _ _ (HV9) (fun hHeld => ?_)
 clear hK K
 try simp only [qA, qB, qC, qD, qE, qF, qG]
 refine kq 16 ?_ (v := .string (str (Sc.roomsL x))) (hy := by intro w hSw; go_simp; try (rw [if_neg (by omega), HT16.out]))
 refine zS 20 fun K hK => ?_
 go_simp
 refine (HF.out _ hHeld.bel).mono ?_; rintro e w9 ⟨rfl, hb9⟩; have HV9 := hHeld.next hb9
 go_wp2_with fail
 refine hK.out _ _ (HV9) (fun hHeld => ?_)
 clear hK K
 try simp only [qA, qB, qC, qD, qE, qF, qG]
 refine kq 21 ?_ (v := .string T21) (hy := by intro w hSw; go_simp; try (rw [if_neg (by omega), HT21.out]))
 refine kq 22 ?_ (v := .string T22) (hy := by intro w hSw; go_simp; try (rw [if_neg (by omega), HT22.out]))
 refine zS 26 fun K hK => ?_
 go_simp
 refine (HX.out _ hHeld.bel).mono ?_; rintro e w9 ⟨rfl, hb9⟩; have HV9 := hHeld.next hb9
 go_wp2_with fail
 refine hK.out _ _ (HV9) (fun hHeld => ?_)
 clear hK K
 try simp only [qA, qB, qC, qD, qE, qF, qG]
 refine kq 27 ?_ (v := .string (str (Sc.selfL x))) (hy := by intro w hSw; go_simp; try (rw [if_neg (by omega), HT27.out]))
 refine zS 28 fun K hK => ?_
 go_simp
 refine hK.out _ _ (hHeld.next (belowA _ _)) (fun hHeld => ?_)
 clear hK K
 try simp only [qA, qB, qC, qD, qE, qF, qG]
 refine kq 29 ?_
 refine zD ?_
 have hz9 : w.heap.size + 1 ≤ w9.heap.size := HV9.A.lt
 have HW0 : Hid (ShW w w9.heap.size x sa va 0 (.slice (some ⟨w9.heap.size, 0, none⟩) 2 2) (w9.alloc (.cells #[.string (str (Sc.roomsL x)), .string (str (Sc.selfL x))] 9))) := qh ⟨hHeld, owns_lit w9 9 #[.string (str (Sc.roomsL x)), .string (str (Sc.selfL x))] 2 rfl (by omega), (fun s hs => by cases hs), hz9, by simp⟩
 clear HD HD1 HD2 HD3 HF HX HT4 HT5 HT10 HT11 HT16 HT21 HT22 HT27 HS HS0 hHeld HV9
 generalize w9.alloc (.cells #[.string (str (Sc.roomsL x)), .string (str (Sc.selfL x))] 9) = wB at *
 generalize w9.heap.size = base at *
 have a23 := HW0.out.I.A.c23
 rw [HVA.out] at a23
 go_wp2_with fail
 go_loopw [3, 5, 6, 43] (fun vl _ _ vi wr => ∃ k : Nat, vi = .int .i64 k ∧ k ≤ sa.length ∧ Hid (ShW w base x sa va k vl wr)) (fun _ _ _ vi _ => sa.length - (intOf vi).toNat)
 case atStart => exact ⟨0, rfl, Nat.zero_le _, HW0⟩
 case round =>
  clear HW0 a23
  obtain ⟨k, rfl, hk, HU⟩ := hrel
  have hbw := HU.out.hb
  have hbz := HU.out.bz
  by_cases hlt : k < sa.length
  ·obtain ⟨b1, o1, rfl, hR1⟩ := HU.out.I.range HVA.out hlt
   have HC := qh hR1
   have HL1 := qh (HLN.out _ (List.getElem_mem hlt))
   have HL2 := HLL.out _ (List.getElem_mem hlt)
   have HON1 := qh (HON.out _ (List.getElem_mem hlt) _ HU.out.I)
   have HTA : Hid (sa.take (k + 1) = sa.take k ++ [sa[k]]) := qh (List.take_succ_eq_append_getElem hlt)
   have HGA : Hid (sa[k] ∈ sa) := qh (List.getElem_mem _)
   have HI1 : Hid ((Tryz.prog.info? 37).map (·.size) = some (stepL sa[k]).length) := qh (by rw [stepL_len]; exact infoSt)
   clear hR1
   generalize sa[k] = p at *
   obtain ⟨ln, hln⟩ : ∃ l, l = Sc.lineR p.t := ⟨_, rfl⟩
   rw [← hln] at HL1 HL2
   have HL := qh hln
   clear hln
   go_upto_region 4 with fail
   refine wp_region_lit ?_
   iterate 3 go_step
   refine wpList_load_midW 37 (.tmp 45) (by rfl) (by rfl) b1 (o1 + k * 36) (by rfl) (stepL p) _ (HC.out _ HU.out.I) Tryz.underlying37 rfl HI1.out ?_
   simp only [qA, qB, qC, qD, qE, qF, qG]
   refine wpList_alloc_as (w := wr) rfl 37 (by rfl) _ zeroSt ?_
   intro w2 E2
   have HX2 : Hid (Blk w2 wr.heap.size 37 (stepA (sv Sc.z))) := (by rw [E2]; exact qh (Blk.new _ _ _))
   have HB2 : Hid (Below wr.heap.size wr w2) := (by rw [E2]; exact qh (belowA _ _))
   clear E2
   simp only [qA, qB, qC, qD, qE, qF, qG]
   refine wpList_store_row_as rfl 37 (.tmp 5) (.tmp 46) (by rfl) wr.heap.size (stepA p) (by rfl) (by rfl) _ _ HX2.out (by rw [stepA_size]; exact infoSt) (by rw [stepA_size, stepA_size]) HON1.out ?_
   intro w3 E3
   have HX3 : Hid (Blk w3 wr.heap.size 37 (stepA p)) := (by rw [E3]; exact qh (HX2.out.setRow _))
   have HU3 : Hid (ShW w base x sa va k u3 w3) := (by rw [E3]; exact qh (HU.out.next (below_setRow HB2.out (Nat.le_refl _) _)))
   clear E3
   go_wp2_with (refine wpList_load_want (by rfl) 37 (.tmp 5) (by rfl) wr.heap.size (by rfl) _ (stepA p) (0, 0) _ HX3.out Tryz.underlying37 rfl (by rw [stepA_size]; exact infoSt) ?_)
   refine (HL1.out _ HU3.out.I).mono ?_
   rintro e w4 ⟨rfl, hb4⟩
   have HU4 := qh (HU3.out.next hb4)
   clear hb4
   clear HU HX2 HB2 HX3 HU3 HC HI1 HON1
   by_cases hl : ln = []
   ·have hem : ln.isEmpty = true := by rw [hl]; rfl
    have htl := str_tl
    have HE0 : Hid (Sc.showX x = []) := qh (if_pos (by
     rw [← HST2.out, List.map_map]
     exact List.mem_map.2 ⟨p, HGA.out, by show Sc.lineR p.t = []; rw [← HL.out, hl]⟩))
    clear hl
    go_wp2_with fail
    go_ret
    exact ⟨by rw [HE0.out]; rfl, HU4.out.I.bel⟩
   ·have hem : ln.isEmpty = false := by
     cases ln with
     | nil => exact absurd rfl hl
     | cons a b => rfl
    have htl := str_tl
    have HNE := qh hl
    clear hl
    have HO5 := qh HU4.out.own
    have hz5 := HU4.out.bz
    have HNX : Hid (∀ v' w', w'.ownsRow base 9 1 v' (2 + k + 1) (flat encS ([Sc.roomsL x, Sc.selfL x] ++ (sa.take k).map fun s => Sc.lineR s.t) ++ [.string (str ln)]) → InS w x sa va w' → base ≤ w'.heap.size → ShW w base x sa va (k + 1) v' w') := qh fun v' w' ho hi hz => by
     refine ⟨hi, ?_, fun s hs => ?_, hbw, hz⟩
     ·rw [HTA.out, List.map_append, ← List.append_assoc, flat_append]
      rw [show 2 + (k + 1) = 2 + k + 1 by omega]
      have : flat encS ([p].map fun s => Sc.lineR s.t) = [.string (str ln)] := by rw [HL.out]; rfl
      rw [this]; exact ho
     ·rw [HTA.out] at hs
      rcases List.mem_append.1 hs with h | h
      ·exact HU4.out.ne s h
      ·rw [List.mem_singleton.1 h, ← HL.out]; exact HNE.out
    go_wp2_with (at_builtin; go_loud (refine wpList_app elemS rfl (.tmp 51) (.tmp 53) rfl base u3 _ _ rfl HO5.out 1 1 [.string (str ln)] rfl rfl (by simp [Value.oneCell']) (by omega) (by omega) ?_; intro v8 w8 hown8 hgr8 hob8 hb8; have HN8 := qh (HNX.out _ _ hown8 (HU4.out.I.grown hgr8 (fun b e => by have := ownB_ge HO5.out e; omega)) (Nat.le_trans hz5 hgr8.size)); clear hown8 hgr8 hob8 hb8))
    exact ⟨⟨k + 1, by go_num, by omega, HN8⟩, by simp [intOf]; omega⟩
  ·obtain rfl : k = sa.length := by omega
   have HSH : Hid (Sc.showX x = match Sc.parseX (Sc.body (Sc.linesOf x)) with
    | .ok y => if (y.r1, y.r2, y.r3) = (x.r1, x.r2, x.r3) then Sc.body (Sc.linesOf x) else []
    | .error _ => []) := qh (if_neg (by
     rw [← HST2.out, List.map_map]
     intro hm
     obtain ⟨s, hs, e⟩ := List.mem_map.1 hm
     exact HU.out.ne s (by rw [List.take_length]; exact hs) e))
   have hLL : (Sc.linesOf x).length = 2 + sa.length := by rw [HTOT.out]; simp; omega
   have HBD : Hid (str (Sc.body (Sc.linesOf x)) = str (Lib.join (Sc.linesOf x) [10]) ++ ⟨#[10]⟩) := qh (by
    rw [← join_body _ (by rw [HTOT.out]; simp), ← str_app]; rfl)
   have hJL : (Lib.join (Sc.linesOf x) [10]).length ≤ 1000000 := by
    have := congrArg List.length (join_body (Sc.linesOf x) (by rw [HTOT.out]; simp))
    simp only [List.length_append, List.length_cons, List.length_nil] at this
    omega
   have HV9 : Hid (SlR wr 1 encS u3 (Sc.linesOf x)) := qh (by
    have h := SlR.of_owns encS_len (xs := [Sc.roomsL x, Sc.selfL x] ++ (sa.take sa.length).map fun s => Sc.lineR s.t) (by
     have h0 := HU.out.own
     rw [show 2 + sa.length = ([Sc.roomsL x, Sc.selfL x] ++ (sa.take sa.length).map fun s => Sc.lineR s.t).length by simp; omega] at h0
     exact h0)
    rw [List.take_length, ← HTOT.out] at h
    exact h)
   have HPE := qh fun k2 => parse_code (s := Sc.body (Sc.linesOf x)) (k := k2)
   have HPR := qh fun (W : World) (hb : Below w.heap.size w W) => scr_Parse (Sc.body (Sc.linesOf x)) hT W (HT.out W hb)
   rw [HBD.out] at HPR
   have HJ : Hid (∀ W v, SlR W 1 encS v (Sc.linesOf x) → Calls Tryz.prog 34 #[v, .string ⟨#[10]⟩] W fun e w' => e = .returned (.string (str (Lib.join (Sc.linesOf x) [10]))) ∧ Below W.heap.size W w') := qh fun W v hv => joinC_any 10 _ (by omega) (by omega) v W hv
   clear hLL
   have zj := str_size (Lib.join (Sc.linesOf x) [10])
   generalize hJ0 : str (Lib.join (Sc.linesOf x) [10]) = TJ at *
   clear hJ0
   obtain ⟨p9, c9, rfl, -, -, -⟩ := HV9.out
   have HS5 := qh HU.out.I
   clear HTOT HLN HLL HU
   generalize Sc.body (Sc.linesOf x) = TX at *
   generalize Sc.parseX TX = o at *
   generalize Sc.linesOf x = L at *
   go_wp2_with fail
   refine (HJ.out _ _ HV9.out).mono ?_
   rintro e w6 ⟨rfl, hb6⟩
   have HS6 := qh (HS5.out.next hb6)
   clear hb6 HJ HV9
   go_wp2_with fail
   refine (HPR.out _ HS6.out.bel).mono ?_
   rintro e w9 ⟨y, sy, vy, c, n, rfl, hy, hb9, ho1, ho2⟩
   have HS9 := qh (HS6.out.next hb9)
   have HVO : Hid (vy.oneCell' = true) := qh (by obtain ⟨p, d, rfl, -⟩ := hy.sl; rfl)
   have HZY : Hid ((Tryz.prog.info? 61).map (·.size) = some (scA y vy).size) := qh (by rw [scA_size hy.z]; exact infoSc)
   have HZE : Hid ((scA scrZ (.slice none 0 0)).size = (scA y vy).size) := qh (by rw [scA_size hy.z]; rfl)
   have HK : Hid (∀ wa wb, wa = w9.alloc (.cells (scA scrZ (.slice none 0 0)) 61) → wb = wa.setRow w9.heap.size (scA y vy) → ScAt 61 wb w9.heap.size y vy ∧ Below w9.heap.size w9 wb) := qh fun wa wb h1 h2 => by
    subst h1 h2
    exact ⟨⟨(Blk.new _ _ _).setRow _, hy.z⟩, below_setRow (belowA _ _) (Nat.le_refl _) _⟩
   have HO1 := qh ho1
   have HO2 := qh ho2
   clear hy hb9 ho1 ho2
   cases o with
   | error k2 =>
    have hcd : (c != 0) = true := by simp only [bne_iff_ne, ne_eq]; rw [(HO2.out k2 rfl).2.1]; exact HPE.out k2 rfl
    have HRES : Hid (Sc.showX x = []) := qh HSH.out
    clear HO1 HO2 HPE HSH
    go_upto_region 12 with (first
     | (refine wpList_alloc_as rfl 61 (by rfl) _ zeroSc ?_; intro w10 h10; have HE10 := qh h10; have HX10 : Hid (Blk w10 w9.heap.size 61 (scA scrZ (.slice none 0 0))) := (by rw [h10]; exact qh (Blk.new _ _ _)); clear h10)
     | (refine wpList_store_row_as rfl 61 (.tmp 8) (.tmp 62) (by rfl) w9.heap.size (scA y vy) (by rfl) (by rfl) _ _ HX10.out HZY.out HZE.out (scA_one HVO.out) ?_; intro w11 h11; have HY11 := qh (HK.out w10 w11 HE10.out h11).1; have HS11 := qh (HS9.out.next (HK.out w10 w11 HE10.out h11).2); clear h11))
    refine wp_region_lit ?_
    iterate 8 go_step
    generalize hA : (Act.mk _ _ : Act) = A
    rename_i K hK
    refine hK A _ ?_
    clear hK K
    iterate 5 (refine wpList_offS (by rw [← hA]; kernel_rfl) (by rw [← hA]; kernel_rfl) ?_)
    subst hA
    go_wp2_with fail
    go_ret
    exact ⟨by rw [HRES.out]; rfl, HS11.out.bel⟩
   | ok z2 =>
    obtain ⟨hy1, hc1, -⟩ := HO1.out z2 rfl
    subst hy1 hc1
    clear HO1 HO2 HPE
    have hq := fun w => run_rmC (y.r1, y.r2, y.r3) (x.r1, x.r2, x.r3) w
    have hg := fun w op a b => GuardAt.agg (P := Tryz.prog) (T := 55) (fun c : Array Value => c) (by kernel_rfl) op a b (rmA (y.r1, y.r2, y.r3)) (rmA (x.r1, x.r2, x.r3)) w
    have HIA : Hid ((Tryz.prog.info? 55).map (·.size) = some (rmA (y.r1, y.r2, y.r3)).toList.length) := qh (by kernel_rfl)
    have HIB : Hid ((Tryz.prog.info? 55).map (·.size) = some (rmA (x.r1, x.r2, x.r3)).toList.length) := qh (by kernel_rfl)
    have HRY : Hid (∀ W, ScAt 61 W w9.heap.size y vy → W.rangeAt w9.heap.size 0 (rmA (y.r1, y.r2, y.r3)).toList) := qh fun W h => h.rm
    have HRX : Hid (∀ W, InS w x sa va W → W.rangeAt w.heap.size 0 (rmA (x.r1, x.r2, x.r3)).toList) := qh fun W h => h.A.rm
    generalize hRY : rmA (y.r1, y.r2, y.r3) = RY at *
    generalize hRX : rmA (x.r1, x.r2, x.r3) = RX at *
    clear hRY hRX
    by_cases he : (y.r1, y.r2, y.r3) = (x.r1, x.r2, x.r3)
    ·have HRES : Hid (Sc.showX x = TX) := qh (HSH.out.trans (if_pos he))
     rw [decide_eq_true he] at hq
     clear he HSH
     go_upto_region 12 with (first
      | (refine wpList_alloc_as rfl 61 (by rfl) _ zeroSc ?_; intro w10 h10; have HE10 := qh h10; have HX10 : Hid (Blk w10 w9.heap.size 61 (scA scrZ (.slice none 0 0))) := (by rw [h10]; exact qh (Blk.new _ _ _)); clear h10)
      | (refine wpList_store_row_as rfl 61 (.tmp 8) (.tmp 62) (by rfl) w9.heap.size (scA y vy) (by rfl) (by rfl) _ _ HX10.out HZY.out HZE.out (scA_one HVO.out) ?_; intro w11 h11; have HY11 := qh (HK.out w10 w11 HE10.out h11).1; have HS11 := qh (HS9.out.next (HK.out w10 w11 HE10.out h11).2); clear h11))
     refine wp_region_lit ?_
     iterate 11 go_step
     refine wpList_load_midW 55 (.tmp 68) (by rfl) (by rfl) w9.heap.size 0 (by rfl) RY.toList _ (HRY.out _ HY11.out) Tryz.underlying55 rfl HIA.out ?_
     simp only [qA, qB, qC, qD, qE, qF, qG]
     iterate 2 go_step
     refine wpList_load_midW 55 (.tmp 70) (by rfl) (by rfl) w.heap.size 0 (by rfl) RX.toList _ (HRX.out _ HS11.out) Tryz.underlying55 rfl HIB.out ?_
     simp only [qA, qB, qC, qD, qE, qF, qG]
     go_wp2_with fail
     go_ret
     exact ⟨by rw [HRES.out, HBD.out]; rfl, HS11.out.bel⟩
    ·have HRES : Hid (Sc.showX x = []) := qh (HSH.out.trans (if_neg he))
     rw [decide_eq_false he] at hq
     clear he HSH
     go_upto_region 12 with (first
      | (refine wpList_alloc_as rfl 61 (by rfl) _ zeroSc ?_; intro w10 h10; have HE10 := qh h10; have HX10 : Hid (Blk w10 w9.heap.size 61 (scA scrZ (.slice none 0 0))) := (by rw [h10]; exact qh (Blk.new _ _ _)); clear h10)
      | (refine wpList_store_row_as rfl 61 (.tmp 8) (.tmp 62) (by rfl) w9.heap.size (scA y vy) (by rfl) (by rfl) _ _ HX10.out HZY.out HZE.out (scA_one HVO.out) ?_; intro w11 h11; have HY11 := qh (HK.out w10 w11 HE10.out h11).1; have HS11 := qh (HS9.out.next (HK.out w10 w11 HE10.out h11).2); clear h11))
     refine wp_region_lit ?_
     iterate 11 go_step
     refine wpList_load_midW 55 (.tmp 68) (by rfl) (by rfl) w9.heap.size 0 (by rfl) RY.toList _ (HRY.out _ HY11.out) Tryz.underlying55 rfl HIA.out ?_
     simp only [qA, qB, qC, qD, qE, qF, qG]
     iterate 2 go_step
     refine wpList_load_midW 55 (.tmp 70) (by rfl) (by rfl) w.heap.size 0 (by rfl) RX.toList _ (HRX.out _ HS11.out) Tryz.underlying55 rfl HIB.out ?_
     simp only [qA, qB, qC, qD, qE, qF, qG]
     go_wp2_with fail
     go_ret
     exact ⟨by rw [HRES.out]; rfl, HS11.out.bel⟩
end Go.Proofs.YtdbgeobolongmaaGreatDoor
namespace Go.Proofs.YtdbgeobolongmaaGreatDoor
open Go Go.OctetPlain Go.ColonPlain Go.PrefixPlain
def exA : List UInt8 := [98, 105, 110, 100, 32, 49, 48, 48, 32, 48, 42, 49, 32, 50, 42, 51]
def exB : List UInt8 := [109, 112, 108, 115, 32, 49, 32, 48, 48, 48, 54, 52, 48, 48, 53]
def exC : List UInt8 := [98, 105, 110, 100, 32, 49, 48, 48]
def exX : List UInt8 := [35, 32, 120, 10, 114, 111, 111, 109, 115, 32, 52, 32, 53, 32, 54, 10, 115, 101, 108, 102, 32, 49, 48, 46, 48, 46, 48, 46, 49, 32, 58, 58, 49, 10, 104, 111, 112, 32, 112, 111, 112, 32, 112, 111, 114, 116, 32, 50, 10, 105, 112, 32, 48, 32, 45]
def exY : List UInt8 := [112, 111, 114, 116, 32, 49, 32, 50, 10, 112, 111, 114, 116, 32, 49]
def exZ : List UInt8 := [114, 111, 111, 109, 115, 32, 52, 32, 53, 32, 54, 10, 115, 101, 108, 102, 32, 49, 48, 46, 48, 46, 48, 46, 49, 32, 58, 58, 49, 10, 104, 111, 112, 32, 112, 111, 112, 32, 112, 111, 114, 116, 32, 50, 10, 105, 112, 32, 48, 32, 45, 10]
def stA : Sc.Stp := { Sc.z with kind := 10, a := 100, ways := [(0, 1), (2, 3)] }
def stB : Sc.Stp := { Sc.z with is := true, mpls := true, port := 1, bytes := [0, 6, 64, 5] }
def stH : Sc.Stp := { Sc.z with kind := 8, hop := ⟨2, [], 2, -1, [], false⟩ }
def stP : Sc.Stp := { Sc.z with is := true }
def scX : Sc.Scr := ⟨4, 5, 6, [10, 0, 0, 1], [0, 0, 0, 0, 0, 0, 0, 0, 0, 0, 0, 0, 0, 0, 0, 1], [stH, stP]⟩
set_option maxRecDepth 100000
theorem ex_A : Sc.oneR exA = some stA := by kernel_rfl
theorem ex_B : Sc.oneR exB = some stB := by kernel_rfl
theorem ex_C : Sc.oneR exC = none := by kernel_rfl
theorem ex_X : Sc.parseX exX = .ok scX := by kernel_rfl
theorem ex_Y : Sc.parseX exY = .error (20, 2) := by kernel_rfl
theorem ex_Z : Sc.body (Sc.linesOf scX) = exZ := by kernel_rfl
end Go.Proofs.YtdbgeobolongmaaGreatDoor
