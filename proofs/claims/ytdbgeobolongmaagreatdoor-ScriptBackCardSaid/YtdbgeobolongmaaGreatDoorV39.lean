/- Part of the proof: contracts of the functions that the statements of layer 32 reach. -/
import Derived.Test.YtdbgeobolongmaaGreatDoorV38
set_option linter.unusedVariables false
set_option linter.unusedSimpArgs false
set_option maxRecDepth 100000
set_option maxHeartbeats 4000000
namespace Go.Proofs.YtdbgeobolongmaaGreatDoor
open Go.RowKit Go.Shelf Go.Proofs Go.OctetPlain Go.PrefixPlain
structure PlI (w : World) (x : Sc.Scr) (sa : List StV) (va : Value) (W : World) : Prop where
 I : InS w x sa va W
 R : Blk W (w.heap.size + 1) 69 (scA scrZ (.slice none 0 0))
theorem PlI.grown {w W W' : World} {x : Sc.Scr} {sa : List StV} {va : Value} (h : PlI w x sa va W) {row : Option Nat} (hg : W.grownBy W' row) (hr : ∀ b, row = some b → w.heap.size + 2 ≤ b) : PlI w x sa va W' :=
 ⟨h.I.grown hg (fun b e => by have := hr _ e; omega), h.R.grownO hg (fun e => by have := hr _ e; omega)⟩
theorem PlI.next {w W W' : World} {x : Sc.Scr} {sa : List StV} {va : Value} (h : PlI w x sa va W) (hb : Below W.heap.size W W') : PlI w x sa va W' := h.grown (row := none) (grown_below hb _) (fun b e => by cases e)
theorem built_M (a b c : Int) : Tryz.prog.built 65 [(0, .int .i64 a), (1, .int .i64 b), (2, .int .i64 c)] = some (rmA (a, b, c)) := by kernel_rfl
theorem built_Sl {f x : List UInt8} (hf : f.length = 4) (hx : x.length = 16) : Tryz.prog.built 66 [(0, .agg (cellsB f).toArray), (1, .agg (cellsB x).toArray)] = some (slA f x) := by
 obtain ⟨a, b, c, d, rfl⟩ := list4 hf
 obtain ⟨x0, x1, x2, x3, x4, x5, x6, x7, x8, x9, x10, x11, x12, x13, x14, x15, rfl⟩ := list16 hx
 kernel_rfl
theorem built_X {x : Sc.Scr} (z : Sc.Sized x) : Tryz.prog.built 69 [(0, .agg (rmA (x.r1, x.r2, x.r3))), (1, .agg (slA x.four x.six))] = some (scA x (.slice none 0 0)) := by
 obtain ⟨r1, r2, r3, f, s, st⟩ := x
 obtain ⟨hf, hx⟩ := z
 simp only at hf hx
 obtain ⟨a, b, c, d, rfl⟩ := list4 hf
 obtain ⟨x0, x1, x2, x3, x4, x5, x6, x7, x8, x9, x10, x11, x12, x13, x14, x15, rfl⟩ := list16 hx
 kernel_rfl
theorem law32_plain (x : Sc.Scr) (sa : List StV) (va : Value) (w : World) (A : ScIn Inner w x sa va) (hsl : SlP (· < w.heap.size) w 36 stepL va sa) (hin : ∀ s ∈ sa, Inner (· < w.heap.size) w s) (na : sa.length ≤ 1000000) :
  Calls Tryz.prog 19 #[.agg (scA x va)] w fun e w' => ∃ v, e = .returned (.agg (scA x v)) ∧ ScIn InnerD w' x (sa.map svS) v ∧ Below w.heap.size w w' := by
 have HI0 : Hid (∀ w1 w2, w1 = w.alloc (.cells (scA x va) 61) → w2 = w1.alloc (.cells (scA scrZ (.slice none 0 0)) 69) → PlI w x sa va w2 ∧ w1.heap.size = w.heap.size + 1 ∧ w2.heap.size = w.heap.size + 2) := qh fun w1 w2 h1 h2 => by
  subst h2
  subst h1
  refine ⟨⟨(InS.new A.z hsl hin).next (belowA _ _), ?_⟩, by simp, by simp⟩
  have := Blk.new (w.alloc (.cells (scA x va) 61)) 69 (scA scrZ (.slice none 0 0))
  rw [World.size_alloc] at this
  exact this
 have HBM := qh (built_M x.r1 x.r2 x.r3)
 have HBS := qh (built_Sl A.z.four A.z.six)
 have HBX := qh (built_X A.z)
 have HI4 := qh (show (Tryz.prog.info? 56).map (·.size) = some (cellsB x.four).length from by rw [cellsB_len, A.z.four]; kernel_rfl)
 have HI6 := qh (info16' A.z.six)
 have HIX : Hid (∀ v, (Tryz.prog.info? 69).map (·.size) = some (scA x v).size) := qh fun v => by rw [scA_size A.z]; exact infoX
 have HZX : Hid (∀ v, (scA scrZ (.slice none 0 0)).size = (scA x v).size) := qh fun v => by rw [scA_size A.z]; rfl
 have HZ := qh A.z
 have HST0 := qh A.st
 have HQ16 := qh A.p16
 obtain ⟨pa, ca, hva, -⟩ := A.sl
 have HVA := qh hva
 clear A hsl hin hva
 go_enter Tryz.func19, Tryz.ntmps19
 go_upto_region 1 with (first
  | (refine wpList_box_as (w := w) rfl _ (.tmp 0) (by rfl) (scA x va) (by rfl) ?_; intro w1 E1; have HE1 := qh E1; clear E1)
  | (refine wpList_alloc_as (w := w1) rfl 69 (by rfl) _ zeroX ?_; intro w2 E2; have HP2 := qh (HI0.out w1 w2 HE1.out E2); clear E2))
 have HP := qh HP2.out.1
 have HZ1 := qh HP2.out.2.1
 have HZ2 := qh HP2.out.2.2
 have hz2 : w.heap.size + 2 ≤ w2.heap.size := by have := HP2.out.2.2; omega
 have hz1 : w.heap.size + 1 ≤ w1.heap.size := by have := HP2.out.2.1; omega
 have hz3 : w1.heap.size < w2.heap.size := by have := HP2.out.2.1; have := HP2.out.2.2; omega
 have a0 := HP.out.I.A.c0
 have a1 := HP.out.I.A.c1
 have a2 := HP.out.I.A.c2
 clear HP2 HE1 HI0
 refine wp_region_lit ?_
 iterate 27 go_step
 refine wpList_build_as rfl 65 #[(0, .tmp 7), (1, .tmp 10), (2, .tmp 13)] (by rfl) [(0, .tmp 7), (1, .tmp 10), (2, .tmp 13)] rfl (rmA (x.r1, x.r2, x.r3)) HBM.out ?_
 simp only [qA, qB, qC, qD, qE, qF, qG]
 iterate 6 go_step
 refine wpList_load_midW 56 (.tmp 16) (by rfl) (by rfl) w.heap.size 3 (by rfl) (cellsB x.four) _ HP.out.I.A.fourR Tryz.underlying56 rfl HI4.out ?_
 simp only [qA, qB, qC, qD, qE, qF, qG]
 iterate 6 go_step
 refine wpList_load_midW 24 (.tmp 19) (by rfl) (by rfl) w.heap.size 7 (by rfl) (cellsB x.six) _ HP.out.I.A.sixR Tryz.underlying24 rfl HI6.out ?_
 simp only [qA, qB, qC, qD, qE, qF, qG]
 refine wpList_build_as rfl 66 #[(0, .tmp 17), (1, .tmp 20)] (by rfl) [(0, .tmp 17), (1, .tmp 20)] rfl (slA x.four x.six) HBS.out ?_
 simp only [qA, qB, qC, qD, qE, qF, qG]
 refine wpList_build_as rfl 69 #[(0, .tmp 14), (1, .tmp 21)] (by rfl) [(0, .tmp 14), (1, .tmp 21)] rfl (scA x (.slice none 0 0)) HBX.out ?_
 simp only [qA, qB, qC, qD, qE, qF, qG]
 refine wpList_alloc_as (w := w2) rfl 69 (by rfl) _ zeroX ?_
 intro w3 E3
 have HX3 : Hid (Blk w3 w2.heap.size 69 (scA scrZ (.slice none 0 0))) := (by rw [E3]; exact qh (Blk.new _ _ _))
 have HB3 : Hid (Below w2.heap.size w2 w3) := (by rw [E3]; exact qh (belowA _ _))
 clear E3
 simp only [qA, qB, qC, qD, qE, qF, qG]
 refine wpList_store_row_as rfl 69 (.tmp 3) (.tmp 22) (by rfl) w2.heap.size (scA x (.slice none 0 0)) (by rfl) (by rfl) _ _ HX3.out (HIX.out _) (HZX.out _) (scA_one rfl) ?_
 intro w4 E4
 have HX4 : Hid (Blk w4 w2.heap.size 69 (scA x (.slice none 0 0))) := (by rw [E4]; exact qh (HX3.out.setRow _))
 have HB4 : Hid (Below w2.heap.size w2 w4) := (by rw [E4]; exact qh (below_setRow HB3.out (Nat.le_refl _) _))
 clear E4
 have HP4 := qh (HP.out.next HB4.out)
 have hz4 := HX4.out.lt
 have HPG : Hid (∀ W, w4.grownBy W (some w2.heap.size) → PlI w x sa va W) := qh fun W hg => HP4.out.grown hg fun b e => by cases e; omega
 have HS4 : Hid (ScS 69 46 InnerD (· < w.heap.size) w4 w2.heap.size { x with steps := (sa.take 0).map (·.t) } ((sa.take 0).map svS) (.slice none 0 0) w4) := qh ⟨⟨HX4.out, HZ.out.four, HZ.out.six⟩, World.ownsRow_nil _ _ _ _, rfl, (fun s hs => by cases hs), (fun s hs => by cases hs), grown_refl _ _, hz4, by omega⟩
 clear HX3 HB3 HX4 HB4 HP HP4 a0 a1 a2 HBM HBS HBX HI4 HI6
 go_wp2_with fail
 go_loopw [4] (fun vi wr => ∃ (k : Nat) (v : Value), vi = .int .i64 k ∧ k ≤ sa.length ∧ Hid (ScS 69 46 InnerD (· < w.heap.size) w4 w2.heap.size { x with steps := (sa.take k).map (·.t) } ((sa.take k).map svS) v wr)) (fun vi _ => sa.length - (intOf vi).toNat)
 case atStart => exact ⟨0, _, rfl, Nat.zero_le _, HS4⟩
 case round =>
  clear HS4
  obtain ⟨k, v, rfl, hk, HS⟩ := hrel
  have HP := qh (HPG.out _ HS.out.gr)
  have a23 := HP.out.I.A.c23
  rw [HVA.out] at a23
  by_cases hlt : k < sa.length
  ·have HKL : Hid (((sa.take k).map svS).length = k) := qh (by rw [List.length_map, List.length_take]; omega)
   have HTA : Hid (sa.take (k + 1) = sa.take k ++ [sa[k]]) := qh (List.take_succ_eq_append_getElem hlt)
   have HNX : Hid (∀ v' W', ScS 69 46 InnerD (· < w.heap.size) w4 w2.heap.size { x with steps := (sa.take k).map (·.t) ++ [(svS sa[k]).t] } ((sa.take k).map svS ++ [svS sa[k]]) v' W' → ScS 69 46 InnerD (· < w.heap.size) w4 w2.heap.size { x with steps := (sa.take (k + 1)).map (·.t) } ((sa.take (k + 1)).map svS) v' W') := qh fun v' W' h => by
    rw [HTA.out, List.map_append, List.map_append]; exact h
   obtain ⟨b1, o1, rfl, hR1⟩ := HP.out.I.range HVA.out hlt
   have HC : Hid (∀ W, PlI w x sa va W → W.rangeAt b1 (o1 + k * 36) (stepL sa[k])) := qh fun W h => hR1 W h.I
   clear hR1
   have HST : Hid (∀ W, PlI w x sa va W → Calls Tryz.prog 13 #[.agg (stepL sa[k]).toArray] W fun e w' => e = .returned (.agg (stepA (svS sa[k]))) ∧ Below W.heap.size W w') := qh fun W h =>
    law32_step sa[k] W (HQ16.out _ (List.getElem_mem _)) ((h.I.inn _ (List.getElem_mem _)).imp fun _ _ => trivial)
   have HDI : Hid (∀ W, PlI w x sa va W → InnerD (· < w.heap.size) W (svS sa[k])) := qh fun W h => (h.I.inn _ (List.getElem_mem _)).svS
   have HDJ : Hid (∀ W, ScS 69 46 InnerD (· < w.heap.size) w4 w2.heap.size { x with steps := (sa.take k).map (·.t) } ((sa.take k).map svS) v W → InnerD (· < w.heap.size) W (svS sa[k]) → InnerD (fun b => b < w.heap.size ∧ v.ownBlock ≠ some b) W (svS sa[k])) := qh fun W hS h => h.imp fun b hb => ⟨hb, fun e => by have := ownB_ge hS.own e; omega⟩
   have HNB : Hid (∀ W, ScS 69 46 InnerD (· < w.heap.size) w4 w2.heap.size { x with steps := (sa.take k).map (·.t) } ((sa.take k).map svS) v W → ∀ b, v.ownBlock = some b → w.heap.size + 2 ≤ b) := qh fun W hS b e => by have := ownB_ge hS.own e; omega
   have HP16 : Hid ((svS sa[k]).t.pf.addr.length = 16) := qh (HQ16.out sa[k] (List.getElem_mem _))
   have HON : Hid ((stepA (svS sa[k])).all (·.oneCell') = true) := qh (HDI.out _ HP.out).one
   have HI1 : Hid ((Tryz.prog.info? 37).map (·.size) = some (stepL sa[k]).length) := qh (by rw [stepL_len]; exact infoSt)
   generalize sa[k] = p at *
   obtain ⟨pv, kv, hvf⟩ := owns_form HS.out.own
   rw [HKL.out] at hvf
   subst hvf
   have c23 := HS.out.at_.c23
   go_upto_region 5 with fail
   have HD : Hid (PlI w x sa va wr.drew) := qh (HP.out.next ((Below.refl _ _).drew))
   have HSD : Hid (ScS 69 46 InnerD (· < w.heap.size) w4 w2.heap.size { x with steps := (sa.take k).map (·.t) } ((sa.take k).map svS) (.slice pv k kv) wr.drew) := qh (HS.out.next goodD ((Below.refl _ _).drew))
   refine wp_region_held_drew (S := PlI w x sa va) (by kernel_rfl) HD.out (fun hHeld => ?_)
   refine kq 0 ?_; refine kq 2 ?_
   refine kq 3 ?_ (hy := by intro w h; have c := h.I.A.c23; rw [HVA.out] at c; go_simp; try with_reducible rfl)
   refine kq 4 ?_; refine kq 5 ?_
   refine kY 6 rfl (yieldsIf_load_mid (by rfl) _ _ rfl (b1) (o1 + k * 36) rfl (stepL p) _ (fun w h => HC.out w h) Tryz.underlying37 rfl (HI1.out)) ?_
   have c23 := HSD.out.at_.c23
   refine held_two (i := 1) (j := 7) rfl rfl (by kernel_rfl) (by rfl) (by rfl) (fun K hK => ?_) (fun K hK => ?_)
   ·go_simp
    refine hK.out _ _ hHeld (fun hHeld => ?_)
    clear hK K
    try simp only [qA, qB, qC, qD, qE, qF, qG]
    refine zS 7 fun K hK => ?_
    go_simp
    refine (HST.out _ hHeld).mono ?_
    rintro e w9 ⟨rfl, hb9⟩
    have HV9 := hHeld.next hb9
    have HS9 := qh (HSD.out.next goodD hb9)
    have HD9 := qh (HDI.out _ HV9)
    go_wp2_with fail
    refine hK.out _ _ HV9 (fun hHeld => ?_)
    clear hK K
    try simp only [qA, qB, qC, qD, qE, qF, qG]
    refine zS 8 fun K hK => ?_
    refine wp_build1 67 46 (.tmp 37) rfl (stepA (svS p)) rfl 36 (stepA_size _) (by decide) (by decide) Tryz.underlying67 infoT infoTZ ?_
    have HZ9 := qh (belowA w9 (.cells (stepA (svS p)) 46))
    refine hK.out _ _ (hHeld.next HZ9.out) (fun hHeld => ?_)
    clear hK K
    try simp only [qA, qB, qC, qD, qE, qF, qG]
    have HSA := qh (HS9.out.next goodD HZ9.out)
    have HDA := qh (goodD.below HD9.out HZ9.out)
    have HOW := HSA.out.own
    rw [HKL.out] at HOW
    have HOW := qh HOW
    refine zS 9 fun K hK => ?_
    refine wp_app_big elemT _ _ rfl w4.heap.size (.slice pv k kv) k _ rfl HOW.out ⟨w9.heap.size, 0, none⟩ 1 1 (stepL (svS p)) rfl (stepL_len _) (news_new w9 (stepL (svS p)) _ _ rfl) (step_cells HON.out) (by omega) HSA.out.gr.size ?_
    intro v5 wz hown5 hgr5 hob5
    refine hK.out _ _ (hHeld.grown hgr5 (fun b e => HNB.out _ HSA.out b e)) (fun hHeld => ?_)
    clear hK K
    try simp only [qA, qB, qC, qD, qE, qF, qG]
    obtain ⟨p5, k5, rfl⟩ := owns_form hown5
    have HN := qh (HSA.out.app goodD (HDJ.out _ HSA.out HDA.out) HP16.out (by rw [HKL.out]; exact hown5) hgr5 hob5)
    have c5 := (HSA.out.at_.grown hgr5 (ownB_ne HSA.out.own HSA.out.XW)).c23
    have f5 := (HSA.out.at_.grown hgr5 (ownB_ne HSA.out.own HSA.out.XW)).fz 23
    clear hown5 hgr5 hob5
    refine kq 10 ?_
    refine zS 11 fun K hK => ?_
    go_simp
    refine hK.out _ _ (hHeld.grown (grown_set _ _ _ _) (fun b e => by cases e; omega)) (fun hHeld => ?_)
    clear hK K
    try simp only [qA, qB, qC, qD, qE, qF, qG]
    refine zD ?_
    go_wp2_with fail
    refine ⟨⟨k + 1, _, by go_num, by omega, qh (HNX.out _ _ HN.out)⟩, by simp [intOf]; omega⟩
   ·go_simp
    refine (HST.out _ hHeld).mono ?_
    rintro e w9 ⟨rfl, hb9⟩
    have HV9 := hHeld.next hb9
    have HS9 := qh (HSD.out.next goodD hb9)
    have HD9 := qh (HDI.out _ HV9)
    go_wp2_with fail
    refine hK.out _ _ HV9 (fun hHeld => ?_)
    clear hK K
    try simp only [qA, qB, qC, qD, qE, qF, qG]
    have c24 := HS9.out.at_.c23
    refine held_two (i := 1) (j := 8) rfl rfl (by kernel_rfl) (by rfl) (by rfl) (fun K hK => ?_) (fun K hK => ?_)
    ·go_simp
     refine hK.out _ _ hHeld (fun hHeld => ?_)
     clear hK K
     try simp only [qA, qB, qC, qD, qE, qF, qG]
     refine zS 8 fun K hK => ?_
     refine wp_build1 67 46 (.tmp 37) rfl (stepA (svS p)) rfl 36 (stepA_size _) (by decide) (by decide) Tryz.underlying67 infoT infoTZ ?_
     have HZ9 := qh (belowA w9 (.cells (stepA (svS p)) 46))
     refine hK.out _ _ (hHeld.next HZ9.out) (fun hHeld => ?_)
     clear hK K
     try simp only [qA, qB, qC, qD, qE, qF, qG]
     have HSA := qh (HS9.out.next goodD HZ9.out)
     have HDA := qh (goodD.below HD9.out HZ9.out)
     have HOW := HSA.out.own
     rw [HKL.out] at HOW
     have HOW := qh HOW
     refine zS 9 fun K hK => ?_
     refine wp_app_big elemT _ _ rfl w4.heap.size (.slice pv k kv) k _ rfl HOW.out ⟨w9.heap.size, 0, none⟩ 1 1 (stepL (svS p)) rfl (stepL_len _) (news_new w9 (stepL (svS p)) _ _ rfl) (step_cells HON.out) (by omega) HSA.out.gr.size ?_
     intro v5 wz hown5 hgr5 hob5
     refine hK.out _ _ (hHeld.grown hgr5 (fun b e => HNB.out _ HSA.out b e)) (fun hHeld => ?_)
     clear hK K
     try simp only [qA, qB, qC, qD, qE, qF, qG]
     obtain ⟨p5, k5, rfl⟩ := owns_form hown5
     have HN := qh (HSA.out.app goodD (HDJ.out _ HSA.out HDA.out) HP16.out (by rw [HKL.out]; exact hown5) hgr5 hob5)
     have c5 := (HSA.out.at_.grown hgr5 (ownB_ne HSA.out.own HSA.out.XW)).c23
     have f5 := (HSA.out.at_.grown hgr5 (ownB_ne HSA.out.own HSA.out.XW)).fz 23
     clear hown5 hgr5 hob5
     refine kq 10 ?_
     refine zS 11 fun K hK => ?_
     go_simp
     refine hK.out _ _ (hHeld.grown (grown_set _ _ _ _) (fun b e => by cases e; omega)) (fun hHeld => ?_)
     clear hK K
     try simp only [qA, qB, qC, qD, qE, qF, qG]
     refine zD ?_
     go_wp2_with fail
     refine ⟨⟨k + 1, _, by go_num, by omega, qh (HNX.out _ _ HN.out)⟩, by simp [intOf]; omega⟩
    ·skip
     refine wp_build1 67 46 (.tmp 37) rfl (stepA (svS p)) rfl 36 (stepA_size _) (by decide) (by decide) Tryz.underlying67 infoT infoTZ ?_
     have HZ9 := qh (belowA w9 (.cells (stepA (svS p)) 46))
     refine hK.out _ _ (hHeld.next HZ9.out) (fun hHeld => ?_)
     clear hK K
     try simp only [qA, qB, qC, qD, qE, qF, qG]
     have HSA := qh (HS9.out.next goodD HZ9.out)
     have HDA := qh (goodD.below HD9.out HZ9.out)
     have c25 := HSA.out.at_.c23
     refine zS 1 fun K hK => ?_
     go_simp
     refine hK.out _ _ hHeld (fun hHeld => ?_)
     clear hK K
     try simp only [qA, qB, qC, qD, qE, qF, qG]
     have HOW := HSA.out.own
     rw [HKL.out] at HOW
     have HOW := qh HOW
     refine zS 9 fun K hK => ?_
     refine wp_app_big elemT _ _ rfl w4.heap.size (.slice pv k kv) k _ rfl HOW.out ⟨w9.heap.size, 0, none⟩ 1 1 (stepL (svS p)) rfl (stepL_len _) (news_new w9 (stepL (svS p)) _ _ rfl) (step_cells HON.out) (by omega) HSA.out.gr.size ?_
     intro v5 wz hown5 hgr5 hob5
     refine hK.out _ _ (hHeld.grown hgr5 (fun b e => HNB.out _ HSA.out b e)) (fun hHeld => ?_)
     clear hK K
     try simp only [qA, qB, qC, qD, qE, qF, qG]
     obtain ⟨p5, k5, rfl⟩ := owns_form hown5
     have HN := qh (HSA.out.app goodD (HDJ.out _ HSA.out HDA.out) HP16.out (by rw [HKL.out]; exact hown5) hgr5 hob5)
     have c5 := (HSA.out.at_.grown hgr5 (ownB_ne HSA.out.own HSA.out.XW)).c23
     have f5 := (HSA.out.at_.grown hgr5 (ownB_ne HSA.out.own HSA.out.XW)).fz 23
     clear hown5 hgr5 hob5
     refine kq 10 ?_
     refine zS 11 fun K hK => ?_
     go_simp
     refine hK.out _ _ (hHeld.grown (grown_set _ _ _ _) (fun b e => by cases e; omega)) (fun hHeld => ?_)
     clear hK K
     try simp only [qA, qB, qC, qD, qE, qF, qG]
     refine zD ?_
     go_wp2_with fail
     refine ⟨⟨k + 1, _, by go_num, by omega, qh (HNX.out _ _ HN.out)⟩, by simp [intOf]; omega⟩
  ·obtain rfl : k = sa.length := by omega
   have HX9 := HS.out
   rw [List.take_length, HST0.out] at HX9
   have HX9 := qh HX9
   have HVO : Hid (v.oneCell' = true) := qh (by obtain ⟨p, c, rfl⟩ := owns_form HS.out.own; rfl)
   go_wp2_with (first
    | (refine wpList_load_want (by rfl) 69 (.tmp 3) (by rfl) w2.heap.size (by rfl) _ (scA x v) (0, 0) _ HX9.out.at_.b Tryz.underlying69 rfl (HIX.out _) ?_)
    | (refine wpList_store_row_as rfl 69 (.tmp 2) (.tmp 41) (by rfl) w1.heap.size (scA x v) (by rfl) (by rfl) _ _ (by rw [HZ1.out]; exact HP.out.R) (HIX.out _) (HZX.out _) (scA_one HVO.out) ?_; intro w6 hw6; have HR6 : Hid (Blk w6 w1.heap.size 69 (scA x v)) := (by rw [hw6]; exact qh ((show Blk wr w1.heap.size 69 (scA scrZ (.slice none 0 0)) from by rw [HZ1.out]; exact HP.out.R).setRow _)); have HG6 : Hid (wr.grownBy w6 (some w1.heap.size)) := (by rw [hw6]; exact qh (grown_setRow _ _ _)); clear hw6))
   have HIN : Hid (ScIn InnerD w6 x (sa.map svS) v) := qh ⟨HZ.out, HX9.out.st, SlR.of_owns stepL_len (owns_grown HX9.out.own HG6.out (fun k e => by cases e; omega)), (fun s hs => (goodD.grown (HX9.out.inn s hs) HG6.out (fun b hb e => by cases e; have := hb.1; omega)).imp fun _ _ => trivial), HX9.out.p16⟩
   exact bodyPost_ret (results_cell_row rfl _ _ _ _ _ _ _ rfl HR6.out Tryz.underlying69 rfl (HIX.out _)) rfl ⟨v, rfl, HIN.out, HP.out.I.bel.trans (grown_Below HG6.out HP.out.I.bel.size (by omega))⟩
end Go.Proofs.YtdbgeobolongmaaGreatDoor
