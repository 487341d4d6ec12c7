/- Part of the proof: ScriptLines, ScriptParses, ScriptShows. -/
import Derived.Test.YtdbgeobolongmaaGreatDoorSA38
set_option linter.unusedVariables false
set_option linter.unusedSimpArgs false
set_option maxRecDepth 100000
set_option maxHeartbeats 40000000
namespace Go.Proofs.YtdbgeobolongmaaGreatDoor
open Go.RowKit Go.Shelf Go.Proofs Go.OctetPlain Go.PrefixPlain Go.ColonPlain Go.Proofs.Tryz
def wyS (l : List (Int × Int)) : List UInt8 := l.flatMap fun p => 32 :: Sc.star p
theorem waysD_eq (t : Sc.Stp) : Sc.waysD t = wyS t.ways := rfl
theorem wyS_snoc (l : List (Int × Int)) (p : Int × Int) : wyS (l ++ [p]) = wyS l ++ 32 :: (Lib.itoa p.1 ++ 42 :: Lib.itoa p.2) := by simp [wyS, Sc.star]
theorem wyS_take (l : List (Int × Int)) (k : Nat) : (wyS (l.take k)).length <= (wyS l).length := by
 conv => rhs; rw [← kC k l]
 unfold wyS; rw [uI, zG]; omega
structure TxS (w : World) (s : StV) (W : World) : Prop where
 T : TAt W w.heap.size s
 B : zW w W
 I : vG (fun b => b < w.heap.size) W s
theorem TxS.next {w W W' : World} {s : StV} (h : TxS w s W) (hb : zW W W') : TxS w s W' := ⟨h.T.next hb, h.B.trans (hb.mono h.B.size), h.I.below hb zn⟩
structure TxOK (w : World) (s : StV) (k : Nat) : Prop where
 is : s.t.is = false
 kd : s.t.kind = (k : Int)
 hk : k < 16
 p16 : s.t.pf.addr.length = 16
 I : vG (fun _ => True) w s
 a : I64 s.t.a
 n : I64 s.t.n
 o : I64 s.t.owner
 s1 : I64 s.t.s1
 s2 : I64 s.t.s2
 pl : Len64 s.t.pf
 hl : s.t.hop.labels.length <= 1000
 hr : s.t.hop.repair.length <= 1000
 wi : ∀ p ∈ s.t.ways, I64 p.1 /\ I64 p.2
 tl : s.t.text.length <= 65536
 wl : s.t.ways.length <= 1000
theorem names_cell (w : World) {k : Nat} {y : Hp.Wd} (hy : Sc.names[k]? = some y) : (w.alloc (.cells (flat encS Sc.names).toArray 9)).cell? ⟨w.heap.size, k, none⟩ = some (.string (str y)) := by
 obtain ⟨p, cap, hv, h1, h2, h3⟩ := rF vU w 9 Sc.names zd _ rfl
 cases hv; obtain ⟨hk, rfl⟩ := zL.1 hy; have := h3.in hk 0 (.string (str Sc.names[k])) rfl
 simpa using this
theorem infoPLD (p : Pf) : (prog.info? 26).map (·.size) = some (pfL p).length := by rw [bT]; kernel_rfl
theorem mU (s : StV) (w : World) (k : Nat) (rl : UInt8) (H : TxOK w s k) (hr : Sc.restL.getD k 0 = rl) (hl : rl = 46 ∨ rl = 83 ∨ rl = 72 ∨ rl = 87 ∨ rl = 80 ∨ rl = 81 ∨ rl = 84) (hj : (Sc.textD s.t).length <= 65536) :
  zCB 36 #[.agg (zY s)] w (.string (str (Sc.textD s.t))) := by
 have HLT := qh hl; clear hl; have HT0 : Hid (∀ w1, w1 = w.alloc (.cells (zY s) 46) -> TxS w s w1) := qh fun w1 h => by subst h; exact ⟨⟨Blk.new _ _ _, H.p16⟩, yD _ _, (H.I.bd.imp fun b hb => hb.2).below (yD _ _) zn⟩
 have HIS := qh H.is; have HKD := qh H.kd; have hk := H.hk; have hki : (k : Int) < 16 := om; have HNB := qh fun W => r32_numbers s k H.hk H.kd H.p16 H.a H.n H.o W; have HRS := qh fun W => aD k H.hk W; rw [hr] at HRS; have HOK := qh H; obtain ⟨nm, HNM⟩ : ∃ nm, Hid (Sc.names[k]? = some nm) := ⟨_, qh (zA (by rw [zAp]; exact H.hk))⟩; have HNL : Hid (nm.length <= 1000) := qh (names_le HNM.o); have HFL : Hid ((Sc.numsD (Sc.fieldsL.getD k []) s.t).length <= 93) := qh (by have h1 := nums_le H.a H.n H.o (Sc.fieldsL.getD k []); have := (fields_of k H.hk).1; omega)
 have HTX : Hid (Sc.textD s.t = if Sc.restL.getD k 0 = 72 /\ Hp.checkR s.t.hop ≠ 0 then [] else nm ++ Sc.numsD (Sc.fieldsL.getD k []) s.t ++ Sc.tailD (Sc.restL.getD k 0) s.t) := qh (by
  unfold Sc.textD; rw [zH (by rw [H.is]; decide), zH (by rw [H.kd]; have := H.hk; omega), H.kd]; have : Sc.names.getD k [] = nm := by rw [vP, HNM.o]; rfl
  simp only [bE, this])
 rw [hr] at HTX; have hS : ∀ a b : List UInt8, str a ++ str b = str (a ++ b) := xJ; generalize Sc.textD s.t = tx at *; generalize Sc.numsD (Sc.fieldsL.getD k []) s.t = NB at *; have z1 : (str nm).size <= 1000 := by rw [zZ]; exact HNL.o
 have z2 : (str NB).size <= 93 := by rw [zZ]; exact HFL.o
 clear H hr
 go_enter func36, ntmps36
 go_upto_region 12 with (refine yS (w := w) rfl _ (.tmp 0) rf (zY s) rf ?_; intro w1 E1; have HT := qh (HT0.o w1 E1); clear E1; have c0 := HT.o.T.c0; rw [HIS.o] at c0; have c1 := HT.o.T.c1; rw [HKD.o] at c1)
 clear c0 c1; have HTD := qh (HT.o.next (xE w1.heap.size w1).drew); refine yB (S := TxS w s) kf HTD.o (fun hHeld => ?_); refine kq 1 ?_; refine kq 4 ?_; refine kY 5 rfl (qY rf _ _ rfl (w.heap.size) (1) rfl (oL s) _ (fun w h => h.T.op) underlying42 rfl ((by rw [oL_len]; exact lX))) ?_; refine mQ (i := 0) (j := 6) rfl rfl kf rf rf (fun K hK => ?_) (fun K hK => ?_); go_simp; generalize hg : World.drew _ = w5; have hw5 : w5 = w1.drew.alloc (.cells (flat encS Sc.names).toArray 9) := hg.symm; have HCN : Hid (w5.cell? ⟨w1.heap.size, k, none⟩ = some (.string (str nm))) := qh (by rw [hw5]; exact names_cell w1.drew HNM.o); have HH5 : TxS w s w5 := by rw [hw5]; exact HTD.o.next (yD _ _)
 refine hK.out _ _ HH5 (fun hHeld => ?_); clear hK K hg hw5
 try simp only [qA, qB, qC, qD, qE, qF, qG]
 refine zAj (S' := fun W => TxS w s W /\ W.cell? ⟨w1.heap.size, k, none⟩ = some (.string (str nm))) (fun W h => h.1) _ _ _ _ ?_; have hH2 : TxS w s w5 /\ w5.cell? ⟨w1.heap.size, k, none⟩ = some (.string (str nm)) := ⟨hHeld, HCN.o⟩; refine kq 2 ?_; refine kh 3 (fun w h => h.2) ?_; refine zS 6 fun K hK => ?_; go_simp; refine zT (HNB.o _) fun w6 hb6 => ?_; have HV6 : TxS w s w6 /\ w6.cell? ⟨w1.heap.size, k, none⟩ = some (.string (str nm)) := ⟨hH2.1.next hb6, by rw [hb6.cell (p := ⟨w1.heap.size, k, none⟩) (sW _ _ hH2.2)]; exact hH2.2⟩; go_wp2_with fail
 refine zK hK (HV6) fun hHeld => ?_; clear hK K; refine kq 7 ?_ (hy := by intro w h; have z := hS; have z5 : ¬ 9223372036854775807 < (str nm).size + (str NB).size := om; go_simp; try with_reducible rfl); refine kq 8 ?_; refine zD ?_; replace HT := qh hHeld.1; clear hHeld HV6 hb6 hH2 HCN HTD; rotate_left; go_simp; refine zT (HNB.o _) fun w5 hb5 => ?_; have HV5 := hHeld.next hb5; go_wp2_with fail
 refine hK.out _ _ HV5 (fun hHeld => ?_); clear hK K
 try simp only [qA, qB, qC, qD, qE, qF, qG]
 refine zS 0 fun K hK => ?_; go_simp; generalize hg : World.alloc w5 _ = w6; have hw6 : w6 = w5.alloc (.cells (flat encS Sc.names).toArray 9) := hg.symm; have HCN : Hid (w6.cell? ⟨w5.heap.size, k, none⟩ = some (.string (str nm))) := qh (by rw [hw6]; exact names_cell w5 HNM.o); have HH5 : TxS w s w6 := by rw [hw6]; exact HV5.next (yD _ _)
 refine hK.out _ _ HH5 (fun hHeld => ?_); clear hK K hg hw6
 try simp only [qA, qB, qC, qD, qE, qF, qG]
 refine zAj (S' := fun W => TxS w s W /\ W.cell? ⟨w5.heap.size, k, none⟩ = some (.string (str nm))) (fun W h => h.1) _ _ _ _ ?_; have hH2 : TxS w s w6 /\ w6.cell? ⟨w5.heap.size, k, none⟩ = some (.string (str nm)) := ⟨hHeld, HCN.o⟩; refine kq 2 ?_; refine kh 3 (fun w h => h.2) ?_; refine kq 7 ?_ (hy := by intro w h; have z := hS; have z5 : ¬ 9223372036854775807 < (str nm).size + (str NB).size := om; go_simp; try with_reducible rfl); refine kq 8 ?_; refine zD ?_; replace HT := qh hH2.1; clear hHeld HV5 hb5 hH2 HCN HTD
 all_goals
  generalize hB0 : nm ++ NB = B0 at *; have HBL : Hid (B0.length <= 1093) := qh (by rw [← hB0, zG]; have := HNL.o; have := HFL.o; omega); clear hB0 z1 z2 hS; go_wp2_with fail
  refine (HRS.o _).mono ?_; rintro e w8 ⟨rfl, rfl⟩
  rcases HLT.o with rfl | rfl | rfl | rfl | rfl | rfl | rfl
  focus
   have HSB : Hid (tx = B0) := qh (by rw [HTX.o]; simp [Sc.tailD]); have h := HSB.o; subst h; go_wp2_with fail
  rotate_left
  focus
   have HSB : Hid (tx = B0 ++ 32 :: Sc.dash s.t.s1 s.t.s2) := qh (by rw [HTX.o]; simp [Sc.tailD])
   go_upto_region 15 with fail
   replace HT := qh (HT.o.next (xE w8.heap.size w8).drew); have c5 := HT.o.T.c5; have c6 := HT.o.T.c6; have HD1 := qh fun W => lN s.t.s1 HOK.o.s1 W; have HD2 := qh fun W => lN s.t.s2 HOK.o.s2 W; have HL1 := qh (uW HOK.o.s1); have HL2 := qh (uW HOK.o.s2); have HTY : Hid (tx = B0 ++ 32 :: (Lib.itoa s.t.s1 ++ 45 :: Lib.itoa s.t.s2)) := qh (by rw [HSB.o]; rfl); generalize Lib.itoa s.t.s1 = e1 at *; generalize Lib.itoa s.t.s2 = e2 at *; have hA : str B0 ++ (⟨#[32]⟩ ++ str e1 ++ ⟨#[45]⟩ ++ str e2) = str tx := by rw [HTY.o, show (⟨#[32]⟩ : ByteArray) = str [32] from rfl, show (⟨#[45]⟩ : ByteArray) = str [45] from rfl, xJ, xJ, xJ, xJ]; simp
   have zB : (str B0).size <= 1093 := by rw [zZ]; exact HBL.o
   have zE : (str e1).size <= 30 := by rw [zZ]; exact HL1.o
   have zF : (str e2).size <= 30 := by rw [zZ]; exact HL2.o
   refine yB (S := fun W => W = w8.drew) kf rfl (fun hHeld => ?_); refine kq 0 ?_; refine kq 1 ?_; refine kq 2 ?_; refine kq 3 ?_; refine kq 8 ?_; refine kq 9 ?_; refine kq 10 ?_; refine kq 4 ?_ (hy := by intro w h; subst h; have c := c5; go_simp; try with_reducible rfl); refine kq 11 ?_ (hy := by intro w h; subst h; have c := c6; go_simp; try with_reducible rfl); refine qK (i := 5) (v := .string (str e1)) rfl kf kf kf (fun _ _ _ h => h) ⟨rf, fun w hSw => ⟨_, _, kf, HD1.o w⟩⟩ za ?_; simp only [qA, qB, qC, qD, qE, qF, qG]; refine qK (i := 12) (v := .string (str e2)) rfl kf kf kf (fun _ _ _ h => h) ⟨rf, fun w hSw => ⟨_, _, kf, HD2.o w⟩⟩ za ?_; simp only [qA, qB, qC, qD, qE, qF, qG]; refine kq 6 ?_ (hy := by intro w h; have z : ¬ 9223372036854775807 < 1 + (str e1).size := om; go_simp; try with_reducible rfl); refine kq 7 ?_ (hy := by intro w h; have z : ¬ 9223372036854775807 < (1 + (str e1).size) + 1 := om; have y : ¬ 9223372036854775807 < (⟨#[32]⟩ ++ str e1).size + 1 := (by rw [yN]; show ¬ _ < 1 + _ + 1; omega); go_simp; try with_reducible rfl); refine kq 13 ?_ (hy := by intro w h; have z : ¬ 9223372036854775807 < ((1 + (str e1).size) + 1) + (str e2).size := om; have y : ¬ 9223372036854775807 < (⟨#[32]⟩ ++ str e1 ++ ⟨#[45]⟩).size + (str e2).size := (by rw [yN, yN]; show ¬ _ < 1 + _ + 1 + _; omega); go_simp; try with_reducible rfl); refine kq 14 ?_ (hy := by intro w h; have x := hA; have z : ¬ 9223372036854775807 < (str B0).size + (((1 + (str e1).size) + 1) + (str e2).size) := om; have y : ¬ 9223372036854775807 < (str B0).size + (⟨#[32]⟩ ++ str e1 ++ ⟨#[45]⟩ ++ str e2).size := (by rw [yN, yN, yN]; show ¬ _ < _ + (1 + _ + 1 + _); omega); go_simp; try with_reducible rfl); refine kq 15 ?_; refine zD ?_; clear c5 c6 zB zE zF hA HTY; go_wp2_with fail
  rotate_left
  focus
   have HSB : Hid (tx = if Hp.checkR s.t.hop ≠ 0 then [] else B0 ++ 32 :: Hp.showR s.t.hop) := qh (by rw [HTX.o]; simp [Sc.tailD]); have HI8 := qh fun (W : World) (hb : zW w8 W) => wP.below ⟨yK HOK.o.hl zd, yK HOK.o.hr zd, HT.o.I.l.sl, HT.o.I.r.sl⟩ hb zn; have HCK := qh fun (W : World) (hb : zW w8 W) => ref_Check s.t.hop (HI8.o W hb).n1 (HI8.o W hb).n2 s.vl s.vr W (HI8.o W hb).sl (HI8.o W hb).sr; have HSW := qh fun (hv : Hp.checkR s.t.hop = 0) (W : World) (hb : zW w8 W) => ref_Show15 s.t.hop ((Hp.check_iff _).1 hv) s.vl s.vr W (HI8.o W hb); have HRA := qh HT.o.T.hop; have HIA := qh (zDr s.t.hop s.vl s.vr); rw [← zAu] at HCK HSW; generalize Hp.showR s.t.hop = sh at *; generalize Hp.checkR s.t.hop = ck at *; have HHOP : Hid (∀ W, TxS w s W -> W.rangeAt w.heap.size 25 (hopL s.t.hop s.vl s.vr)) := qh fun W h => h.T.hop; generalize hopL s.t.hop s.vl s.vr = PA at *
   go_wp2_with (refine vF rfl _ (.tmp 68) rf w.heap.size 25 rf PA _ HRA.o underlying29 rfl HIA.o ?_)
   refine zT (HCK.o _ zb) fun w9 hb9 => ?_; have HB9 := qh hb9; replace HT := qh (HT.o.next hb9); have HRA9 := qh (HHOP.o w9 HT.o); clear hb9
   by_cases hc : ck = 0
   rotate_left
   ·have HTY : Hid (tx = []) := qh (by rw [HSB.o, zN hc])
    have hne : (ck != 0) = true := by simpa using hc
    clear hc
    go_wp2
    go_ret
    exact ⟨by rw [HTY.o]; rfl, HT.o.B⟩
   have HTY : Hid (tx = B0 ++ 32 :: sh) := qh (by rw [HSB.o, zH (fun h => h hc)]); have hne : (ck != 0) = false := by rw [hc]; rfl
   have HSX := qh (HSW.o hc w9 HB9.o); have HPL : Hid (sh.length <= 65536) := qh (by have h := hj; rw [HTY.o] at h; simp only [zG, zI] at h; omega); clear hc
   go_wp2_with (refine vF rfl _ (.tmp 74) rf w.heap.size 25 rf PA _ HRA9.o underlying29 rfl HIA.o ?_)
   refine zT HSX.o fun w10 hb10 => ?_; replace HT := qh (HT.o.next hb10); clear hb10; have zB : (str B0).size <= 1093 := by rw [zZ]; exact HBL.o
   have zE : (str sh).size <= 65536 := by rw [zZ]; exact HPL.o
   have hA : str B0 ++ (⟨#[32]⟩ ++ str sh) = str tx := by rw [HTY.o, show (⟨#[32]⟩ : ByteArray) = str [32] from rfl, xJ, xJ]; simp
   go_wp2_with fail
  rotate_left
  focus
   have HSB : Hid (tx = B0 ++ Sc.waysD s.t) := qh (by rw [HTX.o]; simp [Sc.tailD]); have HTY : Hid (tx = B0 ++ wyS s.t.ways) := qh (by rw [HSB.o]; rfl); go_wp2_with fail
   obtain ⟨L0, rfl⟩ : ∃ L0, L0 = B0 := ⟨_, rfl⟩
  rotate_left
  focus
   have HSB : Hid (tx = B0 ++ 32 :: fC s.t.pf) := qh (by rw [HTX.o]; simp [Sc.tailD]); have HSH := qh fun W => r8_Show s.t.pf HOK.o.p16 HOK.o.pl W; rw [← zDz HOK.o.p16] at HSH; have HPL : Hid ((fC s.t.pf).length <= 65536) := qh (by have h := hj; rw [HSB.o] at h; simp only [zG, zI] at h; omega); have HRA := qh HT.o.T.pf; have HIA := qh (infoPLD s.t.pf); generalize fC s.t.pf = sp at *; generalize pfL s.t.pf = PA at *
   go_wp2_with (refine vF rfl _ (.tmp 87) rf w.heap.size 7 rf PA _ HRA.o underlying26 rfl HIA.o ?_)
   refine zT (HSH.o _) fun w9 hb9 => ?_; replace HT := qh (HT.o.next hb9); clear hb9; have zB : (str B0).size <= 1093 := by rw [zZ]; exact HBL.o
   have zE : (str sp).size <= 65536 := by rw [zZ]; exact HPL.o
   have hA : str B0 ++ (⟨#[32]⟩ ++ str sp) = str tx := by rw [HSB.o, show (⟨#[32]⟩ : ByteArray) = str [32] from rfl, xJ, xJ]; simp
   go_wp2_with fail
  rotate_left
  focus
   have HSB : Hid (tx = B0 ++ (32 :: fC s.t.pf ++ Sc.waysD s.t)) := qh (by rw [HTX.o]; simp [Sc.tailD]); have HSH := qh fun W => r8_Show s.t.pf HOK.o.p16 HOK.o.pl W; rw [← zDz HOK.o.p16] at HSH; have HPL : Hid ((fC s.t.pf).length <= 65536) := qh (by have h := hj; rw [HSB.o] at h; simp only [zG, zI] at h; omega); have HRA := qh HT.o.T.pf; have HIA := qh (infoPLD s.t.pf); generalize fC s.t.pf = sp at *; generalize pfL s.t.pf = PA at *
   go_wp2_with (refine vF rfl _ (.tmp 87) rf w.heap.size 7 rf PA _ HRA.o underlying26 rfl HIA.o ?_)
   refine zT (HSH.o _) fun w9 hb9 => ?_; replace HT := qh (HT.o.next hb9); clear hb9; have zB : (str B0).size <= 1093 := by rw [zZ]; exact HBL.o
   have zE : (str sp).size <= 65536 := by rw [zZ]; exact HPL.o
   obtain ⟨L0, HL0⟩ : ∃ L0, Hid (L0 = B0 ++ 32 :: sp) := ⟨_, qh rfl⟩; have HTY : Hid (tx = L0 ++ wyS s.t.ways) := qh (by rw [HSB.o, HL0.o, waysD_eq]; simp); have hA : str B0 ++ (⟨#[32]⟩ ++ str sp) = str L0 := by rw [HL0.o, show (⟨#[32]⟩ : ByteArray) = str [32] from rfl, xJ, xJ]; simp
   go_wp2_with fail
   clear hA zB zE
  rotate_left
  focus
   have HSB : Hid (tx = B0 ++ 32 :: s.t.text) := qh (by rw [HTX.o]; simp [Sc.tailD]); have c32 := HT.o.T.c32; have hA : str B0 ++ (⟨#[32]⟩ ++ str s.t.text) = str tx := by rw [HSB.o, show (⟨#[32]⟩ : ByteArray) = str [32] from rfl, xJ, xJ]; simp
   have zB : (str B0).size <= 1093 := by rw [zZ]; exact HBL.o
   have zE : (str s.t.text).size <= 65536 := by rw [zZ]; exact HOK.o.tl
   go_wp2_with fail
  rotate_left
  all_goals try
   have hL0 : L0 = L0 := rfl; clear hL0; have HWS := qh fun (W : World) (h : TxS w s W) => h.I.ws; have HVW : Hid (∃ pw cw, s.vw = .slice pw s.t.ways.length cw) := qh (by obtain ⟨pw, cw, hvw, -⟩ := HT.o.I.ws; exact ⟨pw, cw, hvw⟩); obtain ⟨pw, cw, hvw⟩ := HVW.o; have HWI := qh HOK.o.wi; have HLN : Hid ((L0 ++ wyS s.t.ways).length <= 65536) := qh (by have h := hj; rw [HTY.o] at h; exact h); have HC31 : Hid (∀ W, TxS w s W -> W.cell? ⟨w.heap.size, 31, none⟩ = some (.slice pw s.t.ways.length cw)) := qh fun W h => by rw [h.T.c31, hvw]
   have HAT : Hid (∀ W j (hj : j < s.t.ways.length), TxS w s W -> ∃ b off, pw = some ⟨b, off, none⟩ /\ W.cell? ⟨b, off + j * 2, none⟩ = some (.int .i64 s.t.ways[j].1) /\ W.cell? ⟨b, off + j * 2 + 1, none⟩ = some (.int .i64 s.t.ways[j].2)) := qh fun W j hj h => by
    obtain ⟨p1, c1, e1, -, -, hR, -⟩ := h.I.ws; rw [hvw] at e1; injection e1 with e1 e2 e3
    subst e1; obtain ⟨b, off, h1, -, h2, h3⟩ := hR.atW hj; exact ⟨b, off, h1, h2, h3⟩
   have hwl := HOK.o.wl; generalize s.t.ways = WS at *; clear hvw HVW HWS
   go_loopw [6, 8] (fun vs vi wr => ∃ j : Nat, vi = .int .i64 j /\ j <= WS.length /\ vs = .string (str (L0 ++ wyS (WS.take j))) /\ Hid (TxS w s wr)) (fun _ vi _ => WS.length - (intOf vi).toNat)
   case atStart => exact ⟨0, rfl, yQ _, by rw [pU]; simp [wyS], HT⟩
   case round =>
    obtain ⟨j, rfl, hjn, rfl, HU⟩ := hrel
    by_cases hlt : j < WS.length
    ·obtain ⟨b, off, rfl, -⟩ := HAT.o wr j hlt HU.o
     have c31 := HC31.o wr HU.o; have HUD := qh (HU.o.next (xE wr.heap.size wr).drew); have d31 := HC31.o wr.drew HUD.o; obtain ⟨b', off', hb', x0, x1⟩ := HAT.o wr.drew j hlt HUD.o
     cases hb'
     have hwi := HWI.o WS[j] (yU hlt); have HTK : Hid (WS.take (j + 1) = WS.take j ++ [WS[j]]) := qh (yA hlt); have HLT : Hid ((L0 ++ wyS (WS.take j)).length <= 65536) := qh (by have h1 := HLN.o; have h2 := wyS_take WS j; rw [zG] at h1 ⊢; omega); generalize WS[j] = y at *; obtain ⟨ya, yb⟩ := y; simp only at x0 x1 hwi; have HD1 := qh fun W => lN ya hwi.1 W; have HD2 := qh fun W => lN yb hwi.2 W; have HL1 := qh (uW hwi.1); have HL2 := qh (uW hwi.2); have HTY2 : Hid (L0 ++ wyS (WS.take (j + 1)) = (L0 ++ wyS (WS.take j)) ++ 32 :: (Lib.itoa ya ++ 42 :: Lib.itoa yb)) := qh (by rw [HTK.o, wyS_snoc, xQ]); generalize Lib.itoa ya = e1 at *; generalize Lib.itoa yb = e2 at *; generalize L0 ++ wyS (WS.take j) = LJ at *; generalize hLK : L0 ++ wyS (WS.take (j + 1)) = LK at *; have HLK := qh hLK; clear hLK; have hA : str LJ ++ (⟨#[32]⟩ ++ str e1 ++ ⟨#[42]⟩ ++ str e2) = str LK := by rw [HTY2.o, show (⟨#[32]⟩ : ByteArray) = str [32] from rfl, show (⟨#[42]⟩ : ByteArray) = str [42] from rfl, xJ, xJ, xJ, xJ]; simp
     have zB : (str LJ).size <= 65536 := by rw [zZ]; exact HLT.o
     have zE : (str e1).size <= 30 := by rw [zZ]; exact HL1.o
     have zF : (str e2).size <= 30 := by rw [zZ]; exact HL2.o
     go_upto_region 27 with fail
     refine yB (S := fun W => W = wr.drew) kf rfl (fun hHeld => ?_); refine kq 0 ?_; refine kq 1 ?_; refine kq 2 ?_; refine kq 4 ?_; refine kq 11 ?_; refine kq 12 ?_; refine kq 14 ?_; refine kq 3 ?_ (hy := by intro w h; subst h; have c := d31; go_simp; try with_reducible rfl); refine kq 13 ?_ (hy := by intro w h; subst h; have c := d31; go_simp; try with_reducible rfl); refine kq 5 ?_; refine kq 6 ?_; refine kq 15 ?_; refine kq 16 ?_; refine kq 7 ?_ (hy := by intro w h; subst h; have c := x0; go_simp; try with_reducible rfl); refine kq 17 ?_ (hy := by intro w h; subst h; have c := x1; go_simp; try with_reducible rfl); refine qK (i := 8) (v := .string (str e1)) rfl kf kf kf (fun _ _ _ h => h) ⟨rf, fun w hSw => ⟨_, _, kf, HD1.o w⟩⟩ za ?_; simp only [qA, qB, qC, qD, qE, qF, qG]; refine qK (i := 18) (v := .string (str e2)) rfl kf kf kf (fun _ _ _ h => h) ⟨rf, fun w hSw => ⟨_, _, kf, HD2.o w⟩⟩ za ?_; simp only [qA, qB, qC, qD, qE, qF, qG]; refine kq 9 ?_ (hy := by intro w h; have z : ¬ 9223372036854775807 < 1 + (str e1).size := om; go_simp; try with_reducible rfl); refine kq 10 ?_ (hy := by intro w h; have z : ¬ 9223372036854775807 < (1 + (str e1).size) + 1 := om; have y : ¬ 9223372036854775807 < (⟨#[32]⟩ ++ str e1).size + 1 := (by rw [yN]; show ¬ _ < 1 + _ + 1; omega); go_simp; try with_reducible rfl); refine kq 19 ?_ (hy := by intro w h; have z : ¬ 9223372036854775807 < ((1 + (str e1).size) + 1) + (str e2).size := om; have y : ¬ 9223372036854775807 < (⟨#[32]⟩ ++ str e1 ++ ⟨#[42]⟩).size + (str e2).size := (by rw [yN, yN]; show ¬ _ < 1 + _ + 1 + _; omega); go_simp; try with_reducible rfl); refine kq 20 ?_ (hy := by intro w h; have x := hA; have z : ¬ 9223372036854775807 < (str LJ).size + (((1 + (str e1).size) + 1) + (str e2).size) := om; have y : ¬ 9223372036854775807 < (str LJ).size + (⟨#[32]⟩ ++ str e1 ++ ⟨#[42]⟩ ++ str e2).size := (by rw [yN, yN, yN]; show ¬ _ < _ + (1 + _ + 1 + _); omega); go_simp; try with_reducible rfl); refine kq 21 ?_; refine zD ?_; clear c31 d31 x0 x1 zB zE zF hA HTY2 hHeld
     go_wp2
     exact ⟨⟨j + 1, by go_num, om, by rw [HLK.o], HUD⟩, by simp [intOf]; omega⟩
    ·obtain rfl : j = WS.length := om
     have c31 := HC31.o wr HU.o; have HTK : Hid (L0 ++ wyS (WS.take WS.length) = tx) := qh (by rw [xK, HTY.o]); rw [HTK.o]
     go_upto_region 25 with fail
     refine jD ?_
     iterate 20 go_step
     generalize hA : (Act.mk _ _ : Act) = A; rename_i K hK; refine hK A _ ?_; clear hK K
     iterate 6 (refine lJ (by rw [← hA]; kernel_rfl) ?_)
     subst hA; simp only [qA, qB, qC, qD, qE, qF, qG]
     go_wp2
     go_ret
     exact ⟨rfl, HU.o.B⟩
  all_goals
   obtain ⟨pw, cw, hvw, -⟩ := HT.o.I.ws
   go_loopw [6, 8] (fun vs vi wr => vi = .int .i64 0 /\ vs = .string (str tx) /\ Hid (TxS w s wr)) (fun _ _ _ => 0)
   case atStart => exact ⟨rfl, rfl, HT⟩
   case round =>
    obtain ⟨rfl, rfl, HU⟩ := hrel; have c31 := HU.o.T.c31; rw [hvw] at c31
    by_cases hn0 : s.t.ways.length = 0
    ·rw [hn0] at c31
     go_upto_region 25 with fail
     refine jD ?_
     iterate 20 go_step
     generalize hA : (Act.mk _ _ : Act) = A; rename_i K hK; refine hK A _ ?_; clear hK K
     iterate 6 (refine lJ (by rw [← hA]; kernel_rfl) ?_)
     subst hA; simp only [qA, qB, qC, qD, qE, qF, qG]
     go_wp2
     go_ret
     exact ⟨rfl, HU.o.B⟩
    ·have hpos : 0 < s.t.ways.length := om
     go_wp2
     go_ret
     exact ⟨rfl, HU.o.B⟩
end Go.Proofs.YtdbgeobolongmaaGreatDoor
