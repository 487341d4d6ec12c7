/- Part of the proof: ScriptLines, ScriptParses, ScriptShows. -/
import Derived.Test.YtdbgeobolongmaaGreatDoorSA42
import Derived.Test.YtdbgeobolongmaaGreatDoorSA43
set_option linter.unusedVariables false
set_option linter.unusedSimpArgs false
set_option maxRecDepth 100000
set_option maxHeartbeats 4000000
namespace Go.Proofs.YtdbgeobolongmaaGreatDoor
open Go.RowKit Go.Shelf Go.Proofs Go.OctetPlain Go.PrefixPlain Go.ColonPlain Go.Proofs.Tryz
theorem text_none (s : StV) (w : World) (hi : s.t.is = false) (hk : s.t.kind < 0 ∨ 15 < s.t.kind) (p16 : s.t.pf.addr.length = 16) :
  zCB 36 #[.agg (zY s)] w (.string (str (Sc.textD s.t))) := by
 have HT0 : Hid (∀ w1, w1 = w.alloc (.cells (zY s) 46) -> TAt w1 w.heap.size s /\ zW w w1) := qh fun w1 h => by subst h; exact ⟨⟨Blk.new _ _ _, p16⟩, yD _ _⟩
 have HIS := qh hi; have HTX : Hid (Sc.textD s.t = []) := qh (by unfold Sc.textD; rw [zH (by rw [hi]; decide), zN hk]); generalize Sc.textD s.t = tx at *; clear hi p16
 rcases hk with hk | hk
 all_goals
  go_enter func36, ntmps36
  go_wp2_with (refine yS (w := w) rfl _ (.tmp 0) rf (zY s) rf ?_; intro w1 E1; have HT := qh (HT0.o w1 E1).1; have HB := qh (HT0.o w1 E1).2; clear E1; have c0 := HT.o.c0; rw [HIS.o] at c0; have c1 := HT.o.c1)
  go_ret
  exact ⟨by rw [HTX.o]; rfl, HB.o⟩
structure DOK (w : World) (s : StV) : Prop where
 p16 : s.t.pf.addr.length = 16
 I : vG (fun _ => True) w s
 sb : SB s.t
 hj : (Sc.textD s.t).length <= 65536
theorem DOK.next {w w' : World} {s : StV} (h : DOK w s) (hb : zW w w') : DOK w' s := ⟨h.p16, h.I.below hb zn, h.sb, h.hj⟩
theorem r32_text (s : StV) (w : World) (D : DOK w s) :
  zCB 36 #[.agg (zY s)] w (.string (str (Sc.textD s.t))) := by
 cases hi : s.t.is with
 | true => exact text_packet s w hi D.p16 D.I.b D.sb.q D.sb.bl
 |false =>
  by_cases hk : 0 <= s.t.kind /\ s.t.kind <= 15
  ·have hk16 : s.t.kind.toNat < 16 := om
   have H : TxOK w s s.t.kind.toNat := ⟨hi, om, hk16, D.p16, D.I, D.sb.a, D.sb.n, D.sb.o, D.sb.s1, D.sb.s2, D.sb.pl, D.sb.hop.n1, D.sb.hop.n2, D.sb.wi, D.sb.tl, D.sb.wl⟩
   rcases rest_cases _ hk16 with h | h | h | h | h | h | h
   ·exact mU s w _ _ H h zd D.hj
   ·exact mU s w _ _ H h zd D.hj
   ·exact mU s w _ _ H h zd D.hj
   ·exact mU s w _ _ H h zd D.hj
   ·exact mU s w _ _ H h zd D.hj
   ·exact mU s w _ _ H h zd D.hj
   ·exact mU s w _ _ H h zd D.hj
  ·exact text_none s w hi om D.p16
theorem zCs {s : List UInt8} {x : Sc.Stp} (h : Sc.oneR s = some x) : x.hop.labels.length <= 1073741824 /\ x.hop.repair.length <= 1073741824 := by
 rcases (Sc.one_fits h).hop with e | e
 ·rw [e]; exact ⟨zd, zd⟩
 ·have v := (Hp.check_iff _).1 e
  exact ⟨yK v.n1 zd, yK v.n2 zd⟩
theorem r32_Line (s : StV) (w : World) (D : DOK w s) :
  zCB 15 #[.agg (zY s)] w (.string (str (Sc.lineD s.t))) := by
 have HTX := qh fun (W : World) (hb : zW w W) => r32_text s W (D.next hb); have HON := qh fun W => r32_One (Sc.textD s.t) D.hj W; have HLD : Hid (Sc.lineD s.t = if Sc.oneR (Sc.textD s.t) = some s.t then Sc.textD s.t else []) := qh rfl
 have HSM := qh fun (W : World) (hb : zW w W) (s' : StV) (y : Sc.Stp) (ho : Sc.oneR (Sc.textD s.t) = some y) (hs : s'.t = y) (hp : s'.t.pf.addr.length = 16) (hi : vG (fun _ => True) W s') =>
  pW s s' W (D.next hb).I hi D.p16 hp (yK D.sb.hop.n1 zd) (yK D.sb.hop.n2 zd) (yK D.sb.wl zd) (by rw [hs]; exact (zCs ho).1) (by rw [hs]; exact (zCs ho).2) (by rw [hs]; exact (one_sz ho D.hj).1)
 have HP16 := qh D.p16; have HIO := qh D.I.one; generalize Sc.lineD s.t = ln at *; generalize Sc.textD s.t = tx at *; generalize Sc.oneR tx = o at *; clear D
 go_enter func15, ntmps15
 go_wp2_with (first
  | (refine yS (w := w) rfl _ (.tmp 0) rf (zY s) rf ?_; intro w1 E1; have HX1 : Hid (Blk w1 w.heap.size 46 (zY s)) := (by rw [E1]; exact qh (Blk.new _ _ _)); have HB1 : Hid (zW w w1) := (by rw [E1]; exact qh (yD w _)); clear E1)
  | (refine yI rf 46 (.tmp 1) rf w.heap.size rf _ (zY s) (0, 0) _ HX1.o underlying46 rfl (by rw [zO]; exact kZ) ?_))
 refine zT (HTX.o _ HB1.o) fun w2 hb2 => ?_; have HX2 := qh (HX1.o.below hb2 HX1.o.lt); have HB2 := qh (HB1.o.trans (hb2.mono HB1.o.size)); clear hb2; go_wp2_with fail
 refine (HON.o _).mono ?_; rintro e w3 ⟨s', rfl, hst, hp, hi, hb3⟩; have HX3 := qh (HX2.o.below hb3 HX2.o.lt); have HB3 := qh (HB2.o.trans (hb3.mono HB2.o.size)); have HST := qh hst; have HP3 := qh hp; have HI3 : Hid (vG (fun _ => True) w3 s') := qh (hi.imp fun _ _ => trivial)
 have HK3 : Hid (∀ wa wb, wa = w3.alloc (.cells (zY (svD Sc.z)) 46) -> wb = wa.setRow w3.heap.size (zY s') -> Blk wb w3.heap.size 46 (zY s') /\ zW w3 wb) := qh fun wa wb e1 e2 => by
  subst e1 e2; exact ⟨(Blk.new _ _ _).setRow _, below_setRow (yD _ _) zn _⟩
 clear hst hp hi hb3
 cases o with
 |none =>
  have HL : Hid (ln = []) := qh (by rw [HLD.o, zH zi])
  go_wp2_with (first
   | (refine zQ (w := w3) rfl 46 rf _ zAi ?_; intro w4 h4; have HE4 := qh h4; clear h4)
   | (refine zJ rfl 46 (.tmp 4) (.tmp 11) rf w3.heap.size (zY s') rf rf 46 (zY (svD Sc.z)) (by rw [HE4.o]; exact Blk.new _ _ _) (by rw [zO]; exact kZ) (by rw [zO, zO]) HI3.o.one ?_; intro w5 h5; have HK5 := qh (HK3.o w4 w5 HE4.o h5); have HB5 := qh (HB3.o.trans (HK5.o.2.mono HB3.o.size)); clear h5))
  go_ret
  exact ⟨by rw [HL.o]; rfl, HB5.o⟩
 |some y =>
  have HYS : Hid (s'.t = y) := qh HST.o; have HSX : Hid (∀ W, zW w3 W -> zCB 12 #[.agg (zY s), .agg (zY s')] W (.bool (decide (s.t = s'.t)))) := qh fun W hb => HSM.o W (HB3.o.trans (hb.mono HB3.o.size)) s' y rfl HYS.o HP3.o (HI3.o.below hb zn)
  by_cases hss : s.t = s'.t
  ·have HL : Hid (ln = tx) := qh (by rw [HLD.o, zN (by rw [hss, HYS.o])])
   rw [zV hss] at HSX; clear hss
   go_wp2_with (first
    | (refine zQ (w := w3) rfl 46 rf _ zAi ?_; intro w4 h4; have HE4 := qh h4; clear h4)
    | (refine zJ rfl 46 (.tmp 4) (.tmp 11) rf w3.heap.size (zY s') rf rf 46 (zY (svD Sc.z)) (by rw [HE4.o]; exact Blk.new _ _ _) (by rw [zO]; exact kZ) (by rw [zO, zO]) HI3.o.one ?_; intro w5 h5; have HK5 := qh (HK3.o w4 w5 HE4.o h5); have HB5 := qh (HB3.o.trans (HK5.o.2.mono HB3.o.size)); have HX5 := qh (HX3.o.below HK5.o.2 HX3.o.lt); clear h5)
    | (refine yI rf 46 (.tmp 1) rf w.heap.size rf _ (zY s) (0, 0) _ HX5.o underlying46 rfl (by rw [zO]; exact kZ) ?_)
    | (refine yI rf 46 (.tmp 4) rf w3.heap.size rf _ (zY s') (0, 0) _ HK5.o.1 underlying46 rfl (by rw [zO]; exact kZ) ?_))
   refine zT (HSX.o _ HK5.o.2) fun w6 hb6 => ?_; have HB6 := qh (HB5.o.trans (hb6.mono HB5.o.size)); clear hb6
   go_wp2
   go_ret
   exact ⟨by rw [HL.o]; rfl, HB6.o⟩
  ·have HL : Hid (ln = []) := qh (by rw [HLD.o, zH (fun h => hss (by cases h; exact HYS.o.symm))])
   rw [zM hss] at HSX; clear hss
   go_wp2_with (first
    | (refine zQ (w := w3) rfl 46 rf _ zAi ?_; intro w4 h4; have HE4 := qh h4; clear h4)
    | (refine zJ rfl 46 (.tmp 4) (.tmp 11) rf w3.heap.size (zY s') rf rf 46 (zY (svD Sc.z)) (by rw [HE4.o]; exact Blk.new _ _ _) (by rw [zO]; exact kZ) (by rw [zO, zO]) HI3.o.one ?_; intro w5 h5; have HK5 := qh (HK3.o w4 w5 HE4.o h5); have HB5 := qh (HB3.o.trans (HK5.o.2.mono HB3.o.size)); have HX5 := qh (HX3.o.below HK5.o.2 HX3.o.lt); clear h5)
    | (refine yI rf 46 (.tmp 1) rf w.heap.size rf _ (zY s) (0, 0) _ HX5.o underlying46 rfl (by rw [zO]; exact kZ) ?_)
    | (refine yI rf 46 (.tmp 4) rf w3.heap.size rf _ (zY s') (0, 0) _ HK5.o.1 underlying46 rfl (by rw [zO]; exact kZ) ?_))
   refine zT (HSX.o _ HK5.o.2) fun w6 hb6 => ?_; have HB6 := qh (HB5.o.trans (hb6.mono HB5.o.size)); clear hb6
   go_wp2
   go_ret
   exact ⟨by rw [HL.o]; rfl, HB6.o⟩
structure ShX (w : World) (x : Sc.Scr) (sa : List StV) (va : Value) (W : World) : Prop where
 A : ScAt 69 W w.heap.size x va
 bel : zW w W
 IA : ScIn vG W x sa va
theorem ShX.next {w W W' : World} {x : Sc.Scr} {sa : List StV} {va : Value} (h : ShX w x sa va W) (hb : zW W W') : ShX w x sa va W' := ⟨h.A.next hb, h.bel.trans (hb.mono h.bel.size), h.IA.below goodD hb⟩
theorem mJ : ∀ (a b : List (List UInt8)), Sc.body (a ++ b) = Sc.body a ++ Sc.body b
 | [], _ => rfl
 | w :: l, b => by rw [yC, Sc.body, mJ l b, Sc.body, xQ, yC]
theorem body_take_le (l : List (List UInt8)) (k : Nat) : (Sc.body (l.take k)).length <= (Sc.body l).length := by
 have h := yG (fun z => (Sc.body z).length) (kC k l); simp only [mJ, zG] at h; omega
theorem ShX.ra {w W : World} {x : Sc.Scr} {sa : List StV} {va : Value} (h : ShX w x sa va W) {p : Option Addr} {n c : Nat} (hv : va = .slice p n c) : RdP W 36 uC p sa := by
 obtain ⟨q, d, e, -, -, hp⟩ := h.IA.sl; rw [hv] at e; cases e; exact hp
theorem ShX.new {w : World} {x : Sc.Scr} {sa : List StV} {va : Value} (A : ScIn vG w x sa va) : ShX w x sa va (w.alloc (.cells (scA x va) 69)) :=
 ⟨⟨Blk.new _ _ _, A.z⟩, yD w _, A.below goodD (yD w _)⟩
theorem slA_split (a b : List UInt8) : (slA a b).toList = uS a ++ uS b := by simp [slA, uS]
theorem ScAt.fourR {t : TypeId} {w : World} {X : Nat} {x : Sc.Scr} {v : Value} (h : ScAt t w X x v) : w.rangeAt X 3 (uS x.four) := by
 have h3 := h.sl; rw [slA_split] at h3; intro i v hv; exact h3 i v (by rw [vV (zL.1 hv).1]; exact hv)
theorem ScAt.sixR {t : TypeId} {w : World} {X : Nat} {x : Sc.Scr} {v : Value} (h : ScAt t w X x v) : w.rangeAt X 7 (uS x.six) := by
 have h3 := h.sl; rw [slA_split] at h3; intro i v hv; have h4 := h3 (4 + i) v (by rw [vD (by rw [jH, h.z.four]; omega), jH, h.z.four, Nat.add_sub_cancel_left]; exact hv); rw [← mX] at h4; exact h4
theorem parse_code {s : List UInt8} {k : Int × Nat} (h : Sc.parseX s = .error k) : k.1 ≠ 0 := by
 unfold Sc.parseX at h
 split at h
 ·cases h; decide
 ·split at h
  ·cases h
  ·cases h; exact (by decide : (20 : Int) ≠ 0)
theorem r32_Show (x : Sc.Scr) (sa : List StV) (va : Value) (w : World) (A : ScIn vG w x sa va) (h1 : I64 x.r1) (h2 : I64 x.r2) (h3 : I64 x.r3) (D : ∀ s ∈ sa, DOK w s) (na : sa.length <= 1073741824) (hT : (Sc.body (Sc.linesOf x)).length <= 1000000) :
  zCB 22 #[.agg (scA x va)] w (.string (str (Sc.showX x))) := by
 have HS0 : Hid (∀ w1, w1 = w.alloc (.cells (scA x va) 69) -> ShX w x sa va w1) := qh fun w1 h => by subst h; exact ShX.new A
 have HD1 := qh fun W => lN x.r1 h1 W; have HD2 := qh fun W => lN x.r2 h2 W; have HD3 := qh fun W => lN x.r3 h3 W; have HF := qh fun W => r6_Show x.four A.z.four W; have HX := qh fun W => ref_Show x.six A.z.six W; have l1 := uW h1; have l2 := uW h2; have l3 := uW h3; have l4 : (qP x.four).length <= 1000 := yK (showD_le A.z.four) zd; have l5 : (ColonPlain.show_ x.six).length <= 1000 := yK (ColonPlain.show_le A.z.six).2 zd; have HI4 := qh (show (prog.info? 56).map (·.size) = some (uS x.four).length from by rw [jH, A.z.four]; kernel_rfl); have HI6 := qh (info16' A.z.six); generalize hE1 : Lib.itoa x.r1 = e1 at *; have HE1 := qh hE1; clear hE1; generalize hE2 : Lib.itoa x.r2 = e2 at *; have HE2 := qh hE2; clear hE2; generalize hE3 : Lib.itoa x.r3 = e3 at *; have HE3 := qh hE3; clear hE3; generalize hE4 : qP x.four = e4 at *; have HE4 := qh hE4; clear hE4; generalize hE5 : ColonPlain.show_ x.six = e5 at *; have HE5 := qh hE5; clear hE5; have z1 := zZ e1; have z2 := zZ e2; have z3 := zZ e3; have z4 := zZ e4; have z5 := zZ e5; obtain ⟨T4, hT4⟩ : ∃ T, T = (⟨#[114, 111, 111, 109, 115, 32]⟩ : ByteArray) ++ str e1 := ⟨_, rfl⟩; have y4 : T4.size = 6 + (str e1).size := by rw [hT4, yN]; try rfl
 have HT4 := qh hT4; clear hT4; obtain ⟨T5, hT5⟩ : ∃ T, T = T4 ++ (⟨#[32]⟩ : ByteArray) := ⟨_, rfl⟩; have y5 : T5.size = T4.size + 1 := by rw [hT5, yN]; try rfl
 have HT5 := qh hT5; clear hT5; obtain ⟨T10, hT10⟩ : ∃ T, T = T5 ++ str e2 := ⟨_, rfl⟩; have y10 : T10.size = T5.size + (str e2).size := by rw [hT10, yN]; try rfl
 have HT10 := qh hT10; clear hT10; obtain ⟨T11, hT11⟩ : ∃ T, T = T10 ++ (⟨#[32]⟩ : ByteArray) := ⟨_, rfl⟩; have y11 : T11.size = T10.size + 1 := by rw [hT11, yN]; try rfl
 have HT11 := qh hT11; clear hT11; obtain ⟨T16, hT16⟩ : ∃ T, T = T11 ++ str e3 := ⟨_, rfl⟩; have y16 : T16.size = T11.size + (str e3).size := by rw [hT16, yN]; try rfl
 have HT16 := qh hT16; clear hT16; obtain ⟨T17, hT17⟩ : ∃ T, T = T16 ++ (⟨#[10, 115, 101, 108, 102, 32]⟩ : ByteArray) := ⟨_, rfl⟩; have y17 : T17.size = T16.size + 6 := by rw [hT17, yN]; try rfl
 have HT17 := qh hT17; clear hT17; obtain ⟨T22, hT22⟩ : ∃ T, T = T17 ++ str e4 := ⟨_, rfl⟩; have y22 : T22.size = T17.size + (str e4).size := by rw [hT22, yN]; try rfl
 have HT22 := qh hT22; clear hT22; obtain ⟨T23, hT23⟩ : ∃ T, T = T22 ++ (⟨#[32]⟩ : ByteArray) := ⟨_, rfl⟩; have y23 : T23.size = T22.size + 1 := by rw [hT23, yN]; try rfl
 have HT23 := qh hT23; clear hT23; obtain ⟨T28, hT28⟩ : ∃ T, T = T23 ++ str e5 := ⟨_, rfl⟩; have y28 : T28.size = T23.size + (str e5).size := by rw [hT28, yN]; try rfl
 have HT28 := qh hT28; clear hT28; obtain ⟨T29, hT29⟩ : ∃ T, T = T28 ++ (⟨#[10]⟩ : ByteArray) := ⟨_, rfl⟩; have y29 : T29.size = T28.size + 1 := by rw [hT29, yN]; try rfl
 have HT29 := qh hT29; clear hT29
 go_enter func22, ntmps22
 go_upto_region 1 with (refine yS (w := w) rfl _ (.tmp 0) rf (scA x va) rf ?_; intro w1 E1; have HS := qh (HS0.o w1 E1); clear E1)
 have HD : Hid (ShX w x sa va w1.drew) := qh (HS.o.next (zb.drew)); refine yB (S := ShX w x sa va) kf HD.o (fun hHeld => ?_); refine kq 0 ?_; refine kq 1 ?_; refine kh 2 (fun w h => h.A.c0) ?_; refine qK (i := 3) (v := .string (str e1)) rfl kf kf kf (fun _ _ _ h => h) ⟨rf, fun w hSw => ⟨_, _, kf, HD1.o w⟩⟩ za ?_; simp only [qA, qB, qC, qD, qE, qF, qG]; refine kq 4 ?_ (v := .string T4) (hy := by intro w hSw; go_simp; try (rw [zH om, HT4.o])); refine kq 5 ?_ (v := .string T5) (hy := by intro w hSw; go_simp; try (rw [zH om, HT5.o])); refine kq 6 ?_; refine kq 7 ?_; refine kh 8 (fun w h => h.A.c1) ?_; refine qK (i := 9) (v := .string (str e2)) rfl kf kf kf (fun _ _ _ h => h) ⟨rf, fun w hSw => ⟨_, _, kf, HD2.o w⟩⟩ za ?_; simp only [qA, qB, qC, qD, qE, qF, qG]; refine kq 10 ?_ (v := .string T10) (hy := by intro w hSw; go_simp; try (rw [zH om, HT10.o])); refine kq 11 ?_ (v := .string T11) (hy := by intro w hSw; go_simp; try (rw [zH om, HT11.o])); refine kq 12 ?_; refine kq 13 ?_; refine kh 14 (fun w h => h.A.c2) ?_; refine qK (i := 15) (v := .string (str e3)) rfl kf kf kf (fun _ _ _ h => h) ⟨rf, fun w hSw => ⟨_, _, kf, HD3.o w⟩⟩ za ?_; simp only [qA, qB, qC, qD, qE, qF, qG]; refine kq 16 ?_ (v := .string T16) (hy := by intro w hSw; go_simp; try (rw [zH om, HT16.o])); refine kq 17 ?_ (v := .string T17) (hy := by intro w hSw; go_simp; try (rw [zH om, HT17.o])); refine kq 18 ?_; refine kq 19 ?_; refine kY 20 rfl (qY rf _ _ rfl (w.heap.size) (3) rfl (uS x.four) _ (fun w h => h.A.fourR) underlying56 rfl (HI4.o)) ?_; refine kq 24 ?_; refine kq 25 ?_; refine kY 26 rfl (qY rf _ _ rfl (w.heap.size) (7) rfl (uS x.six) _ (fun w h => h.A.sixR) underlying24 rfl (HI6.o)) ?_; refine zS 21 fun K hK => ?_; go_simp; refine zT (HF.o _) fun w9 hb9 => ?_; have HV9 := hHeld.next hb9; go_wp2_with fail
 refine zK hK (HV9) fun hHeld => ?_; clear hK K; refine kq 22 ?_ (v := .string T22) (hy := by intro w hSw; go_simp; try (rw [zH om, HT22.o])); refine kq 23 ?_ (v := .string T23) (hy := by intro w hSw; go_simp; try (rw [zH om, HT23.o])); refine zS 27 fun K hK => ?_; go_simp; refine zT (HX.o _) fun w9 hb9 => ?_; have HV9 := hHeld.next hb9; go_wp2_with fail
 refine zK hK (HV9) fun hHeld => ?_; clear hK K; refine kq 28 ?_ (v := .string T28) (hy := by intro w hSw; go_simp; try (rw [zH om, HT28.o])); refine kq 29 ?_ (v := .string T29) (hy := by intro w hSw; go_simp; try (rw [zH om, HT29.o])); refine kq 30 ?_; refine zD ?_; obtain ⟨HDR, hH⟩ : ∃ H, H = Sc.body [Sc.roomsL x, Sc.selfL x] := ⟨_, rfl⟩
 have HTOT : Hid (Sc.body (Sc.linesOf x) = HDR ++ Sc.body (sa.map fun s => Sc.lineD s.t)) := qh (by
  rw [hH, ← mJ]
  show Sc.body (Sc.roomsL x :: Sc.selfL x :: x.steps.map Sc.lineR) = _
  rw [← A.st, kJ]; have he : (Sc.lineR ∘ fun s : StV => s.t) = fun s => Sc.lineD s.t := funext fun s => (Sc.lineD_eq s.t).symm; rw [he]; rfl)
 have HHD : Hid (T29 = str HDR) := qh (by rw [hH, HT29.o, HT28.o, HT23.o, HT22.o, HT17.o, HT16.o, HT11.o, HT10.o, HT5.o, HT4.o, ← HE1.o, ← HE2.o, ← HE3.o, ← HE4.o, ← HE5.o]; exact hd_text x); have HS1 := qh hHeld; obtain ⟨pa, ca, hva, -⟩ := A.sl; have HVA := qh hva; clear hva; go_wp2_with fail
 go_loopw [3, 4] (fun vs vi wr => ∃ k : Nat, vi = .int .i64 k /\ k <= sa.length /\ vs = .string (str (HDR ++ Sc.body ((sa.take k).map fun s => Sc.lineD s.t))) /\ Hid (∀ s ∈ sa.take k, Sc.lineD s.t ≠ []) /\ Hid (ShX w x sa va wr)) (fun _ vi _ => sa.length - (intOf vi).toNat)
 case atStart => exact ⟨0, rfl, yQ _, by rw [HHD.o, pU]; simp [Sc.body], qh (fun s hs => by simp at hs), HS1⟩
 case round =>
  clear HS HS1 HD hHeld; obtain ⟨k, rfl, hk, rfl, HE, HS⟩ := hrel; have c1 := HS.o.A.c23; rw [HVA.o] at c1
  by_cases hlt : k < sa.length
  ·obtain ⟨b1, o1, hb1, x0⟩ := (HS.o.ra HVA.o).range hlt
   subst hb1
   have HC : Hid (∀ W, ShX w x sa va W -> W.rangeAt b1 (o1 + k * 36) (uC sa[k])) := qh fun W h => by
    obtain ⟨g1, f1, e1, u0⟩ := (h.ra HVA.o).range hlt
    cases e1; exact u0
   have HCALL : Hid (∀ W, ShX w x sa va W -> zCB 15 #[.agg (uC sa[k]).toArray] W (.string (str (Sc.lineD sa[k].t)))) := qh fun W h =>
    r32_Line sa[k] W ((D _ (yU _)).next h.bel)
   have HTA : Hid (sa.take (k + 1) = sa.take k ++ [sa[k]]) := qh (yA hlt); have HGA : Hid (sa[k] ∈ sa) := qh (yU _); have HI1 := qh (infoTL sa[k]); clear x0; generalize sa[k] = p at *; generalize hL1 : uC p = L1 at *; clear hL1; have HBX : Hid (HDR ++ Sc.body ((sa.take (k + 1)).map fun s => Sc.lineD s.t) = (HDR ++ Sc.body ((sa.take k).map fun s => Sc.lineD s.t)) ++ (Sc.lineD p.t ++ [10])) := qh (by rw [HTA.o, jT, mJ, xQ]; rfl)
   have HBT : Hid ((HDR ++ Sc.body ((sa.take k).map fun s => Sc.lineD s.t)).length <= 1000000) := qh (by
    have h1 := hT; rw [HTOT.o, zG] at h1; have h2 := body_take_le (sa.map fun s => Sc.lineD s.t) k; rw [← List.map_take] at h2; rw [zG]; omega)
   generalize HDR ++ Sc.body ((sa.take k).map fun s => Sc.lineD s.t) = TX at *; have HLN : Hid (Sc.lineD p.t = Sc.lineD p.t) := qh rfl; obtain ⟨ln, hln⟩ : ∃ l, l = Sc.lineD p.t := ⟨_, rfl⟩; rw [← hln] at HCALL; have HL := qh hln; clear hln HLN
   by_cases hl : ln = []
   ·have hem : ln.isEmpty = true := by rw [hl]; rfl
    have htl := vX
    have HE0 : Hid (Sc.showX x = []) := qh (zN (by
     rw [← A.st, kJ]; exact vB.2 ⟨p, HGA.o, by show Sc.lineR p.t = []; rw [← Sc.lineD_eq, ← HL.o, hl]⟩))
    clear hl
    go_wp2_with (first
     | (refine vF rfl 46 (.tmp 49) rf b1 (o1 + k * 36) rf L1 _ (HC.o _ HS.o) underlying46 rfl HI1.o ?_)
     | (refine zT (HCALL.o _ HS.o) fun w9 hb9 => ?_; have HS9 := qh (HS.o.next hb9)))
    go_ret
    exact ⟨by rw [HE0.o]; rfl, HS9.o.bel⟩
   ·have hem : ln.isEmpty = false := by
     cases ln with
     | nil => exact absurd rfl hl
     | cons a b => rfl
    have htl := vX; have HNE := qh hl; clear hl; have zl : (str ln).size = ln.length := zZ ln; have zt : (str TX).size = TX.length := zZ TX
    have bl : ln.length <= 65536 := by
     rw [HL.o]; unfold Sc.lineD
     split
     ·exact (D _ HGA.o).hj
     ·exact yQ _
    have bt := HBT.o
    go_wp2_with (first
     | (refine vF rfl 46 (.tmp 49) rf b1 (o1 + k * 36) rf L1 _ (HC.o _ HS.o) underlying46 rfl HI1.o ?_)
     | (refine zT (HCALL.o _ HS.o) fun w9 hb9 => ?_; have HS9 := qh (HS.o.next hb9)))
    refine ⟨⟨k + 1, by go_num, om, ?_, qh ?_, HS9⟩, by simp [intOf]; omega⟩
    ·rw [HBX.o, ← HL.o, ← xJ, ← xJ]; rfl
    ·intro s hs
     rw [HTA.o] at hs
     rcases xR.1 hs with h | h
     ·exact HE.o s h
     ·rw [xS.1 h, ← HL.o]; exact HNE.o
  ·obtain rfl : k = sa.length := om
   have HSH : Hid (Sc.showX x = match Sc.parseX (Sc.body (Sc.linesOf x)) with
    | .ok y => if (y.r1, y.r2, y.r3) = (x.r1, x.r2, x.r3) then Sc.body (Sc.linesOf x) else []
    |.error _ => []) := qh (zH (by
     rw [← A.st, kJ]; intro hm; obtain ⟨s, hs, e⟩ := vB.1 hm; exact HE.o s (by rw [xK]; exact hs) (by rw [Sc.lineD_eq]; exact e)))
   have HTX : Hid (HDR ++ Sc.body ((sa.take sa.length).map fun s => Sc.lineD s.t) = Sc.body (Sc.linesOf x)) := qh (by rw [xK, HTOT.o]); rw [HTX.o]; have HPE := qh fun k2 => parse_code (s := Sc.body (Sc.linesOf x)) (k := k2); have HPR := qh fun W => r32_Parse (Sc.body (Sc.linesOf x)) hT W; clear HTX HTOT HE HHD; generalize Sc.body (Sc.linesOf x) = TX at *; generalize Sc.parseX TX = o at *; go_wp2_with fail
   refine (HPR.o _).mono ?_; rintro e w9 ⟨y, sy, vy, c, n, rfl, hy, hb9, ho1, ho2⟩; have HS9 := qh (HS.o.next hb9); have HVO : Hid (vy.oneCell' = true) := qh (by obtain ⟨p, d, rfl, -⟩ := hy.sl; rfl); have HZY : Hid ((prog.info? 69).map (·.size) = some (scA y vy).size) := qh (by rw [qM hy.z]; exact infoX); have HZE : Hid ((scA scrZ (.slice none 0 0)).size = (scA y vy).size) := qh (by rw [qM hy.z]; rfl)
   have HK : Hid (∀ wa wb, wa = w9.alloc (.cells (scA scrZ (.slice none 0 0)) 69) -> wb = wa.setRow w9.heap.size (scA y vy) -> ScAt 69 wb w9.heap.size y vy /\ zW w9 wb) := qh fun wa wb h1 h2 => by
    subst h1 h2; exact ⟨⟨(Blk.new _ _ _).setRow _, hy.z⟩, below_setRow (yD _ _) zn _⟩
   have HO1 := qh ho1; have HO2 := qh ho2; clear hy hb9 ho1 ho2
   cases o with
   |error k2 =>
    have hcd : (c != 0) = true := by simp only [jZ, qR]; rw [(HO2.o k2 rfl).2.1]; exact HPE.o k2 rfl
    have HRES : Hid (Sc.showX x = []) := qh HSH.o; clear HO1 HO2 HPE HSH
    go_upto_region 10 with (first
     | (refine zQ (w := w9) rfl 69 rf _ zDb ?_; intro w10 h10; have HE10 := qh h10; have HX10 : Hid (Blk w10 w9.heap.size 69 (scA scrZ (.slice none 0 0))) := (by rw [h10]; exact qh (Blk.new _ _ _)); clear h10)
     | (refine zJ rfl 69 (.tmp 6) (.tmp 61) rf w9.heap.size (scA y vy) rf rf _ _ HX10.o HZY.o HZE.o (fB HVO.o) ?_; intro w11 h11; have HY11 := qh (HK.o w10 w11 HE10.o h11).1; have HS11 := qh (HS9.o.next (HK.o w10 w11 HE10.o h11).2); clear h11))
    refine jD ?_
    iterate 8 go_step
    generalize hA : (Act.mk _ _ : Act) = A; rename_i K hK; refine hK A _ ?_; clear hK K
    iterate 5 (refine aH (by rw [← hA]; kernel_rfl) (by rw [← hA]; kernel_rfl) ?_)
    subst hA
    go_wp2
    go_ret
    exact ⟨by rw [HRES.o]; rfl, HS11.o.bel⟩
   |ok z =>
    obtain ⟨hy1, hc1, -⟩ := HO1.o z rfl; subst hy1 hc1; clear HO1 HO2 HPE; have hq := fun w => run_rmM (y.r1, y.r2, y.r3) (x.r1, x.r2, x.r3) w; have hg := fun w op a b => GuardAt.agg (P := prog) (T := 65) (fun c : Array Value => c) kf op a b (rmA (y.r1, y.r2, y.r3)) (rmA (x.r1, x.r2, x.r3)) w; have HIA : Hid ((prog.info? 65).map (·.size) = some (rmA (y.r1, y.r2, y.r3)).toList.length) := qh fT; have HIB : Hid ((prog.info? 65).map (·.size) = some (rmA (x.r1, x.r2, x.r3)).toList.length) := qh fT; have HRY : Hid (∀ W, ScAt 69 W w9.heap.size y vy -> W.rangeAt w9.heap.size 0 (rmA (y.r1, y.r2, y.r3)).toList) := qh fun W h => h.rm; have HRX : Hid (∀ W, ShX w x sa va W -> W.rangeAt w.heap.size 0 (rmA (x.r1, x.r2, x.r3)).toList) := qh fun W h => h.A.rm; generalize hRY : rmA (y.r1, y.r2, y.r3) = RY at *; generalize hRX : rmA (x.r1, x.r2, x.r3) = RX at *; clear hRY hRX
    by_cases he : (y.r1, y.r2, y.r3) = (x.r1, x.r2, x.r3)
    ·have HRES : Hid (Sc.showX x = TX) := qh (HSH.o.trans (zN he))
     rw [zV he] at hq; clear he HSH
     go_upto_region 10 with (first
      | (refine zQ (w := w9) rfl 69 rf _ zDb ?_; intro w10 h10; have HE10 := qh h10; have HX10 : Hid (Blk w10 w9.heap.size 69 (scA scrZ (.slice none 0 0))) := (by rw [h10]; exact qh (Blk.new _ _ _)); clear h10)
      | (refine zJ rfl 69 (.tmp 6) (.tmp 61) rf w9.heap.size (scA y vy) rf rf _ _ HX10.o HZY.o HZE.o (fB HVO.o) ?_; intro w11 h11; have HY11 := qh (HK.o w10 w11 HE10.o h11).1; have HS11 := qh (HS9.o.next (HK.o w10 w11 HE10.o h11).2); clear h11))
     refine jD ?_
     iterate 11 go_step
     refine xV 65 (.tmp 67) rf rf w9.heap.size 0 rf RY.toList _ (HRY.o _ HY11.o) underlying65 rfl HIA.o ?_; simp only [qA, qB, qC, qD, qE, qF, qG]
     iterate 2 go_step
     refine xV 65 (.tmp 69) rf rf w.heap.size 0 rf RX.toList _ (HRX.o _ HS11.o) underlying65 rfl HIB.o ?_; simp only [qA, qB, qC, qD, qE, qF, qG]
     go_wp2
     go_ret
     exact ⟨by rw [HRES.o]; rfl, HS11.o.bel⟩
    ·have HRES : Hid (Sc.showX x = []) := qh (HSH.o.trans (zH he))
     rw [zM he] at hq; clear he HSH
     go_upto_region 10 with (first
      | (refine zQ (w := w9) rfl 69 rf _ zDb ?_; intro w10 h10; have HE10 := qh h10; have HX10 : Hid (Blk w10 w9.heap.size 69 (scA scrZ (.slice none 0 0))) := (by rw [h10]; exact qh (Blk.new _ _ _)); clear h10)
      | (refine zJ rfl 69 (.tmp 6) (.tmp 61) rf w9.heap.size (scA y vy) rf rf _ _ HX10.o HZY.o HZE.o (fB HVO.o) ?_; intro w11 h11; have HY11 := qh (HK.o w10 w11 HE10.o h11).1; have HS11 := qh (HS9.o.next (HK.o w10 w11 HE10.o h11).2); clear h11))
     refine jD ?_
     iterate 11 go_step
     refine xV 65 (.tmp 67) rf rf w9.heap.size 0 rf RY.toList _ (HRY.o _ HY11.o) underlying65 rfl HIA.o ?_; simp only [qA, qB, qC, qD, qE, qF, qG]
     iterate 2 go_step
     refine xV 65 (.tmp 69) rf rf w.heap.size 0 rf RX.toList _ (HRX.o _ HS11.o) underlying65 rfl HIB.o ?_; simp only [qA, qB, qC, qD, qE, qF, qG]
     go_wp2
     go_ret
     exact ⟨by rw [HRES.o]; rfl, HS11.o.bel⟩
structure PlI (w : World) (x : Sc.Scr) (sa : List StV) (va : Value) (W : World) : Prop where
 I : InS w x sa va W
 R : Blk W (w.heap.size + 1) 69 (scA scrZ (.slice none 0 0))
theorem PlI.grown {w W W' : World} {x : Sc.Scr} {sa : List StV} {va : Value} (h : PlI w x sa va W) {row : Option Nat} (hg : W.grownBy W' row) (hr : ∀ b, row = some b -> w.heap.size + 2 <= b) : PlI w x sa va W' :=
 ⟨h.I.grown hg (fun b e => by have := hr _ e; omega), h.R.grownO hg (fun e => by have := hr _ e; omega)⟩
theorem PlI.next {w W W' : World} {x : Sc.Scr} {sa : List StV} {va : Value} (h : PlI w x sa va W) (hb : zW W W') : PlI w x sa va W' := h.grown (row := none) (uE hb _) (fun b e => by cases e)
theorem built_M (a b c : Int) : prog.built 65 [(0, .int .i64 a), (1, .int .i64 b), (2, .int .i64 c)] = some (rmA (a, b, c)) := kf
theorem built_Sl {f x : List UInt8} (hf : f.length = 4) (hx : x.length = 16) : prog.built 66 [(0, .agg (uS f).toArray), (1, .agg (uS x).toArray)] = some (slA f x) := by
 obtain ⟨a, b, c, d, rfl⟩ := zBg hf; obtain ⟨x0, x1, x2, x3, x4, x5, x6, x7, x8, x9, x10, x11, x12, x13, x14, x15, rfl⟩ := aJ hx
 kernel_rfl
theorem built_X {x : Sc.Scr} (z : Sc.Sized x) : prog.built 69 [(0, .agg (rmA (x.r1, x.r2, x.r3))), (1, .agg (slA x.four x.six))] = some (scA x (.slice none 0 0)) := by
 obtain ⟨r1, r2, r3, f, s, st⟩ := x; obtain ⟨hf, hx⟩ := z; simp only at hf hx; obtain ⟨a, b, c, d, rfl⟩ := zBg hf; obtain ⟨x0, x1, x2, x3, x4, x5, x6, x7, x8, x9, x10, x11, x12, x13, x14, x15, rfl⟩ := aJ hx
 kernel_rfl
theorem law32_plain (x : Sc.Scr) (sa : List StV) (va : Value) (w : World) (A : ScIn xX w x sa va) (hsl : SlP (· < w.heap.size) w 36 uC va sa) (hin : ∀ s ∈ sa, xX (· < w.heap.size) w s) (na : sa.length <= 1000000) :
  Calls prog 19 #[.agg (scA x va)] w fun e w' => ∃ v, e = .returned (.agg (scA x v)) /\ ScIn vG w' x (sa.map svS) v /\ zW w w' := by
 have HI0 : Hid (∀ w1 w2, w1 = w.alloc (.cells (scA x va) 61) -> w2 = w1.alloc (.cells (scA scrZ (.slice none 0 0)) 69) -> PlI w x sa va w2 /\ w1.heap.size = w.heap.size + 1 /\ w2.heap.size = w.heap.size + 2) := qh fun w1 w2 h1 h2 => by
  subst h2; subst h1; refine ⟨⟨(InS.new A.z hsl hin).next (yD _ _), ?_⟩, zi, zi⟩; have := Blk.new (w.alloc (.cells (scA x va) 61)) 69 (scA scrZ (.slice none 0 0)); rw [xG] at this; exact this
 have HBM := qh (built_M x.r1 x.r2 x.r3); have HBS := qh (built_Sl A.z.four A.z.six); have HBX := qh (built_X A.z); have HI4 := qh (show (prog.info? 56).map (·.size) = some (uS x.four).length from by rw [jH, A.z.four]; kernel_rfl); have HI6 := qh (info16' A.z.six); have HIX : Hid (∀ v, (prog.info? 69).map (·.size) = some (scA x v).size) := qh fun v => by rw [qM A.z]; exact infoX
 have HZX : Hid (∀ v, (scA scrZ (.slice none 0 0)).size = (scA x v).size) := qh fun v => by rw [qM A.z]; rfl
 have HZ := qh A.z; have HST0 := qh A.st; have HQ16 := qh A.p16; obtain ⟨pa, ca, hva, -⟩ := A.sl; have HVA := qh hva; clear A hsl hin hva
 go_enter func19, ntmps19
 go_upto_region 1 with (first
  | (refine yS (w := w) rfl _ (.tmp 0) rf (scA x va) rf ?_; intro w1 E1; have HE1 := qh E1; clear E1)
  | (refine zQ (w := w1) rfl 69 rf _ zDb ?_; intro w2 E2; have HP2 := qh (HI0.o w1 w2 HE1.o E2); clear E2))
 have HP := qh HP2.o.1; have HZ1 := qh HP2.o.2.1; have HZ2 := qh HP2.o.2.2; have hz2 : w.heap.size + 2 <= w2.heap.size := by have := HP2.o.2.2; omega
 have hz1 : w.heap.size + 1 <= w1.heap.size := by have := HP2.o.2.1; omega
 have hz3 : w1.heap.size < w2.heap.size := by have := HP2.o.2.1; have := HP2.o.2.2; omega
 have a0 := HP.o.I.A.c0; have a1 := HP.o.I.A.c1; have a2 := HP.o.I.A.c2; clear HP2 HE1 HI0; refine jD ?_
 iterate 27 go_step
 refine fH rfl 65 #[(0, .tmp 7), (1, .tmp 10), (2, .tmp 13)] rf [(0, .tmp 7), (1, .tmp 10), (2, .tmp 13)] rfl (rmA (x.r1, x.r2, x.r3)) HBM.o ?_; simp only [qA, qB, qC, qD, qE, qF, qG]
 iterate 6 go_step
 refine xV 56 (.tmp 16) rf rf w.heap.size 3 rf (uS x.four) _ HP.o.I.A.fourR underlying56 rfl HI4.o ?_; simp only [qA, qB, qC, qD, qE, qF, qG]
 iterate 6 go_step
 refine xV 24 (.tmp 19) rf rf w.heap.size 7 rf (uS x.six) _ HP.o.I.A.sixR underlying24 rfl HI6.o ?_; simp only [qA, qB, qC, qD, qE, qF, qG]; refine fH rfl 66 #[(0, .tmp 17), (1, .tmp 20)] rf [(0, .tmp 17), (1, .tmp 20)] rfl (slA x.four x.six) HBS.o ?_; simp only [qA, qB, qC, qD, qE, qF, qG]; refine fH rfl 69 #[(0, .tmp 14), (1, .tmp 21)] rf [(0, .tmp 14), (1, .tmp 21)] rfl (scA x (.slice none 0 0)) HBX.o ?_; simp only [qA, qB, qC, qD, qE, qF, qG]; refine zQ (w := w2) rfl 69 rf _ zDb ?_; intro w3 E3; have HX3 : Hid (Blk w3 w2.heap.size 69 (scA scrZ (.slice none 0 0))) := (by rw [E3]; exact qh (Blk.new _ _ _)); have HB3 : Hid (zW w2 w3) := (by rw [E3]; exact qh (yD _ _)); clear E3; simp only [qA, qB, qC, qD, qE, qF, qG]; refine zJ rfl 69 (.tmp 3) (.tmp 22) rf w2.heap.size (scA x (.slice none 0 0)) rf rf _ _ HX3.o (HIX.o _) (HZX.o _) (fB rfl) ?_; intro w4 E4; have HX4 : Hid (Blk w4 w2.heap.size 69 (scA x (.slice none 0 0))) := (by rw [E4]; exact qh (HX3.o.setRow _)); have HB4 : Hid (zW w2 w4) := (by rw [E4]; exact qh (below_setRow HB3.o zn _)); clear E4; have HP4 := qh (HP.o.next HB4.o); have hz4 := HX4.o.lt; have HPG : Hid (∀ W, w4.grownBy W (some w2.heap.size) -> PlI w x sa va W) := qh fun W hg => HP4.o.grown hg fun b e => by cases e; omega
 have HS4 : Hid (ScS 69 46 vG (· < w.heap.size) w4 w2.heap.size { x with steps := (sa.take 0).map (·.t) } ((sa.take 0).map svS) (.slice none 0 0) w4) := qh ⟨⟨HX4.o, HZ.o.four, HZ.o.six⟩, xL _ _ _ _, rfl, (fun s hs => by cases hs), (fun s hs => by cases hs), jM _ _, hz4, om⟩; clear HX3 HB3 HX4 HB4 HP HP4 a0 a1 a2 HBM HBS HBX HI4 HI6; go_wp2_with fail
 go_loopw [4] (fun vi wr => ∃ (k : Nat) (v : Value), vi = .int .i64 k /\ k <= sa.length /\ Hid (ScS 69 46 vG (· < w.heap.size) w4 w2.heap.size { x with steps := (sa.take k).map (·.t) } ((sa.take k).map svS) v wr)) (fun vi _ => sa.length - (intOf vi).toNat)
 case atStart => exact ⟨0, _, rfl, yQ _, HS4⟩
 case round =>
  clear HS4; obtain ⟨k, v, rfl, hk, HS⟩ := hrel; have HP := qh (HPG.o _ HS.o.gr); have a23 := HP.o.I.A.c23; rw [HVA.o] at a23
  by_cases hlt : k < sa.length
  ·have HKL : Hid (((sa.take k).map svS).length = k) := qh (by rw [yX, yV]; omega)
   have HTA : Hid (sa.take (k + 1) = sa.take k ++ [sa[k]]) := qh (yA hlt)
   have HNX : Hid (∀ v' W', ScS 69 46 vG (· < w.heap.size) w4 w2.heap.size { x with steps := (sa.take k).map (·.t) ++ [(svS sa[k]).t] } ((sa.take k).map svS ++ [svS sa[k]]) v' W' -> ScS 69 46 vG (· < w.heap.size) w4 w2.heap.size { x with steps := (sa.take (k + 1)).map (·.t) } ((sa.take (k + 1)).map svS) v' W') := qh fun v' W' h => by
    rw [HTA.o, jT, jT]; exact h
   obtain ⟨b1, o1, rfl, hR1⟩ := HP.o.I.range HVA.o hlt; have HC : Hid (∀ W, PlI w x sa va W -> W.rangeAt b1 (o1 + k * 36) (uC sa[k])) := qh fun W h => hR1 W h.I; clear hR1
   have HST : Hid (∀ W, PlI w x sa va W -> zCB 13 #[.agg (uC sa[k]).toArray] W (.agg (zY (svS sa[k])))) := qh fun W h =>
    zCd sa[k] W (HQ16.o _ (yU _)) ((h.I.inn _ (yU _)).imp fun _ _ => trivial)
   have HDI : Hid (∀ W, PlI w x sa va W -> vG (· < w.heap.size) W (svS sa[k])) := qh fun W h => (h.I.inn _ (yU _)).svS; have HDJ : Hid (∀ W, ScS 69 46 vG (· < w.heap.size) w4 w2.heap.size { x with steps := (sa.take k).map (·.t) } ((sa.take k).map svS) v W -> vG (· < w.heap.size) W (svS sa[k]) -> vG (fun b => b < w.heap.size /\ v.ownBlock ≠ some b) W (svS sa[k])) := qh fun W hS h => h.imp fun b hb => ⟨hb, fun e => by have := nC hS.own e; omega⟩; have HNB : Hid (∀ W, ScS 69 46 vG (· < w.heap.size) w4 w2.heap.size { x with steps := (sa.take k).map (·.t) } ((sa.take k).map svS) v W -> ∀ b, v.ownBlock = some b -> w.heap.size + 2 <= b) := qh fun W hS b e => by have := nC hS.own e; omega
   have HP16 : Hid ((svS sa[k]).t.pf.addr.length = 16) := qh (HQ16.o sa[k] (yU _)); have HON : Hid ((zY (svS sa[k])).all (·.oneCell') = true) := qh (HDI.o _ HP.o).one; have HI1 : Hid ((prog.info? 37).map (·.size) = some (uC sa[k]).length) := qh (by rw [kX]; exact uQ); generalize sa[k] = p at *; obtain ⟨pv, kv, hvf⟩ := uG HS.o.own; rw [HKL.o] at hvf; subst hvf; have c23 := HS.o.at_.c23
   go_upto_region 5 with fail
   have HD : Hid (PlI w x sa va wr.drew) := qh (HP.o.next (zb.drew)); have HSD : Hid (ScS 69 46 vG (· < w.heap.size) w4 w2.heap.size { x with steps := (sa.take k).map (·.t) } ((sa.take k).map svS) (.slice pv k kv) wr.drew) := qh (HS.o.next goodD (zb.drew)); refine yB (S := PlI w x sa va) kf HD.o (fun hHeld => ?_); refine kq 0 ?_; refine kq 2 ?_; refine kq 3 ?_ (hy := by intro w h; have c := h.I.A.c23; rw [HVA.o] at c; go_simp; try with_reducible rfl); refine kq 4 ?_; refine kq 5 ?_; refine kY 6 rfl (qY rf _ _ rfl (b1) (o1 + k * 36) rfl (uC p) _ (fun w h => HC.o w h) underlying37 rfl (HI1.o)) ?_; have c23 := HSD.o.at_.c23; refine mQ (i := 1) (j := 7) rfl rfl kf rf rf (fun K hK => ?_) (fun K hK => ?_)
   ·go_simp
    refine hK.out _ _ hHeld (fun hHeld => ?_); clear hK K
    try simp only [qA, qB, qC, qD, qE, qF, qG]
    refine zS 7 fun K hK => ?_; go_simp; refine zT (HST.o _ hHeld) fun w9 hb9 => ?_; have HV9 := hHeld.next hb9; have HS9 := qh (HSD.o.next goodD hb9); have HD9 := qh (HDI.o _ HV9); go_wp2_with fail
    refine hK.out _ _ HV9 (fun hHeld => ?_); clear hK K
    try simp only [qA, qB, qC, qD, qE, qF, qG]
    refine zS 8 fun K hK => ?_; refine mG 67 46 (.tmp 37) rfl (zY (svS p)) rfl 36 (zO _) zd zd underlying67 kZ infoTZ ?_; have HZ9 := qh (yD w9 (.cells (zY (svS p)) 46)); refine zK hK (hHeld.next HZ9.o) fun hHeld => ?_; clear hK K; have HSA := qh (HS9.o.next goodD HZ9.o); have HDA := qh (goodD.below HD9.o HZ9.o); have HOW := HSA.o.own; rw [HKL.o] at HOW; have HOW := qh HOW; refine zS 9 fun K hK => ?_; refine tV elemT _ _ rfl w4.heap.size (.slice pv k kv) k _ rfl HOW.o ⟨w9.heap.size, 0, none⟩ 1 1 (uC (svS p)) rfl (kX _) (pI w9 (uC (svS p)) _ _ rfl) (step_cells HON.o) om HSA.o.gr.size ?_; intro v5 wz hown5 hgr5 hob5; refine zK hK (hHeld.grown hgr5 (fun b e => HNB.o _ HSA.o b e)) fun hHeld => ?_; clear hK K; obtain ⟨p5, k5, rfl⟩ := uG hown5; have HN := qh (HSA.o.app goodD (HDJ.o _ HSA.o HDA.o) HP16.o (by rw [HKL.o]; exact hown5) hgr5 hob5); have c5 := (HSA.o.at_.grown hgr5 (aS HSA.o.own HSA.o.XW)).c23; have f5 := (HSA.o.at_.grown hgr5 (aS HSA.o.own HSA.o.XW)).fz 23; clear hown5 hgr5 hob5; refine kq 10 ?_; refine zS 11 fun K hK => ?_; go_simp; refine zK hK (hHeld.grown (vH _ _ _ _) (fun b e => by cases e; omega)) fun hHeld => ?_; clear hK K; refine zD ?_
    go_wp2
    refine ⟨⟨k + 1, _, by go_num, om, qh (HNX.o _ _ HN.o)⟩, by simp [intOf]; omega⟩
   ·go_simp
    refine zT (HST.o _ hHeld) fun w9 hb9 => ?_; have HV9 := hHeld.next hb9; have HS9 := qh (HSD.o.next goodD hb9); have HD9 := qh (HDI.o _ HV9); go_wp2_with fail
    refine hK.out _ _ HV9 (fun hHeld => ?_); clear hK K
    try simp only [qA, qB, qC, qD, qE, qF, qG]
    have c24 := HS9.o.at_.c23; refine mQ (i := 1) (j := 8) rfl rfl kf rf rf (fun K hK => ?_) (fun K hK => ?_)
    ·go_simp
     refine hK.out _ _ hHeld (fun hHeld => ?_); clear hK K
     try simp only [qA, qB, qC, qD, qE, qF, qG]
     refine zS 8 fun K hK => ?_; refine mG 67 46 (.tmp 37) rfl (zY (svS p)) rfl 36 (zO _) zd zd underlying67 kZ infoTZ ?_; have HZ9 := qh (yD w9 (.cells (zY (svS p)) 46)); refine zK hK (hHeld.next HZ9.o) fun hHeld => ?_; clear hK K; have HSA := qh (HS9.o.next goodD HZ9.o); have HDA := qh (goodD.below HD9.o HZ9.o); have HOW := HSA.o.own; rw [HKL.o] at HOW; have HOW := qh HOW; refine zS 9 fun K hK => ?_; refine tV elemT _ _ rfl w4.heap.size (.slice pv k kv) k _ rfl HOW.o ⟨w9.heap.size, 0, none⟩ 1 1 (uC (svS p)) rfl (kX _) (pI w9 (uC (svS p)) _ _ rfl) (step_cells HON.o) om HSA.o.gr.size ?_; intro v5 wz hown5 hgr5 hob5; refine zK hK (hHeld.grown hgr5 (fun b e => HNB.o _ HSA.o b e)) fun hHeld => ?_; clear hK K; obtain ⟨p5, k5, rfl⟩ := uG hown5; have HN := qh (HSA.o.app goodD (HDJ.o _ HSA.o HDA.o) HP16.o (by rw [HKL.o]; exact hown5) hgr5 hob5); have c5 := (HSA.o.at_.grown hgr5 (aS HSA.o.own HSA.o.XW)).c23; have f5 := (HSA.o.at_.grown hgr5 (aS HSA.o.own HSA.o.XW)).fz 23; clear hown5 hgr5 hob5; refine kq 10 ?_; refine zS 11 fun K hK => ?_; go_simp; refine zK hK (hHeld.grown (vH _ _ _ _) (fun b e => by cases e; omega)) fun hHeld => ?_; clear hK K; refine zD ?_
     go_wp2
     refine ⟨⟨k + 1, _, by go_num, om, qh (HNX.o _ _ HN.o)⟩, by simp [intOf]; omega⟩
    ·skip
     refine mG 67 46 (.tmp 37) rfl (zY (svS p)) rfl 36 (zO _) zd zd underlying67 kZ infoTZ ?_; have HZ9 := qh (yD w9 (.cells (zY (svS p)) 46)); refine zK hK (hHeld.next HZ9.o) fun hHeld => ?_; clear hK K; have HSA := qh (HS9.o.next goodD HZ9.o); have HDA := qh (goodD.below HD9.o HZ9.o); have c25 := HSA.o.at_.c23; refine zS 1 fun K hK => ?_; go_simp; refine hK.out _ _ hHeld (fun hHeld => ?_); clear hK K
     try simp only [qA, qB, qC, qD, qE, qF, qG]
     have HOW := HSA.o.own; rw [HKL.o] at HOW; have HOW := qh HOW; refine zS 9 fun K hK => ?_; refine tV elemT _ _ rfl w4.heap.size (.slice pv k kv) k _ rfl HOW.o ⟨w9.heap.size, 0, none⟩ 1 1 (uC (svS p)) rfl (kX _) (pI w9 (uC (svS p)) _ _ rfl) (step_cells HON.o) om HSA.o.gr.size ?_; intro v5 wz hown5 hgr5 hob5; refine zK hK (hHeld.grown hgr5 (fun b e => HNB.o _ HSA.o b e)) fun hHeld => ?_; clear hK K; obtain ⟨p5, k5, rfl⟩ := uG hown5; have HN := qh (HSA.o.app goodD (HDJ.o _ HSA.o HDA.o) HP16.o (by rw [HKL.o]; exact hown5) hgr5 hob5); have c5 := (HSA.o.at_.grown hgr5 (aS HSA.o.own HSA.o.XW)).c23; have f5 := (HSA.o.at_.grown hgr5 (aS HSA.o.own HSA.o.XW)).fz 23; clear hown5 hgr5 hob5; refine kq 10 ?_; refine zS 11 fun K hK => ?_; go_simp; refine zK hK (hHeld.grown (vH _ _ _ _) (fun b e => by cases e; omega)) fun hHeld => ?_; clear hK K; refine zD ?_
     go_wp2
     refine ⟨⟨k + 1, _, by go_num, om, qh (HNX.o _ _ HN.o)⟩, by simp [intOf]; omega⟩
  ·obtain rfl : k = sa.length := om
   have HX9 := HS.o; rw [xK, HST0.o] at HX9; have HX9 := qh HX9; have HVO : Hid (v.oneCell' = true) := qh (by obtain ⟨p, c, rfl⟩ := uG HS.o.own; rfl)
   go_wp2_with (first
    | (refine yI rf 69 (.tmp 3) rf w2.heap.size rf _ (scA x v) (0, 0) _ HX9.o.at_.b underlying69 rfl (HIX.o _) ?_)
    | (refine zJ rfl 69 (.tmp 2) (.tmp 41) rf w1.heap.size (scA x v) rf rf _ _ (by rw [HZ1.o]; exact HP.o.R) (HIX.o _) (HZX.o _) (fB HVO.o) ?_; intro w6 hw6; have HR6 : Hid (Blk w6 w1.heap.size 69 (scA x v)) := (by rw [hw6]; exact qh ((show Blk wr w1.heap.size 69 (scA scrZ (.slice none 0 0)) from by rw [HZ1.o]; exact HP.o.R).setRow _)); have HG6 : Hid (wr.grownBy w6 (some w1.heap.size)) := (by rw [hw6]; exact qh (uV _ _ _)); clear hw6))
   have HIN : Hid (ScIn vG w6 x (sa.map svS) v) := qh ⟨HZ.o, HX9.o.st, SlR.of_owns kX (mO HX9.o.own HG6.o (fun k e => by cases e; omega)), (fun s hs => (goodD.grown (HX9.o.inn s hs) HG6.o (fun b hb e => by cases e; have := hb.1; omega)).imp fun _ _ => trivial), HX9.o.p16⟩; exact zC (mV rfl _ _ _ _ _ _ _ rfl HR6.o underlying69 rfl (HIX.o _)) rfl ⟨v, rfl, HIN.o, HP.o.I.bel.trans (jB HG6.o HP.o.I.bel.size om)⟩
theorem joinC_any (c : UInt8) (ws : List Hp.Wd) (hw : ws.length <= 1048576) (hll : (Lib.join ws [c]).length <= 140737488355328) (v : Value) (w : World) (hv : SlR w 1 encS v ws) :
  zCB 34 #[v, .string ⟨#[c]⟩] w (.string (str (Lib.join ws [c]))) := by
 obtain ⟨p, cap, rfl, hd1, hd2, hR⟩ := hv
 have hjs : Lib.join ((ws.map str).map (·.data.toList)) (⟨#[c]⟩ : ByteArray).data.toList = Lib.join ws [c] := by
  rw [kJ]; have : (fun s : ByteArray => s.data.toList) ∘ str = id := by funext l; exact kM l
  rw [this, zGg]
 cases p with
 |none =>
  have h0 := hR.1 rfl; have hL0 : ws = [] := zX om; subst hL0; exact (Any.strings_Join_none Tryz.join tN none cap ⟨#[c]⟩ w).mono fun e w' h => ⟨h.1, by rw [h.2]; exact xE _ _⟩
 |some a =>
  by_cases hl0 : ws.length = 0
  ·have hL0 : ws = [] := zX hl0
   subst hL0; exact (Any.strings_Join_none Tryz.join tN (some a) cap ⟨#[c]⟩ w).mono fun e w' h => ⟨h.1, by rw [h.2]; exact xE _ _⟩
  obtain ⟨hsp, hbk, hcl⟩ := hR.2 a rfl hl0; have ha : a = ⟨a.block, a.off, none⟩ := by cases a; simp only at hsp; subst hsp; rfl
  have hcon := Any.strings_Join Tryz.join tN a.block a.off cap (ws.map str) ⟨#[c]⟩ w (fun j x hx => by
   rw [jL] at hx
   cases hy : ws[j]? with
   | none => rw [hy] at hx; cases hx
   |some y =>
    rw [hy] at hx
    cases hx; have := hcl j y hy 0 (.string (str y)) rfl
    simpa using this) hbk zo (by simpa using hd1) (by rw [hjs]; exact hll)
  rw [hjs, yX] at hcon; rw [ha]; exact hcon
theorem zEc : ∀ (ws : List Hp.Wd), ws ≠ [] -> Lib.join ws [10] ++ [10] = Sc.body ws
 | [], h => absurd rfl h
 | [w], _ => by rw [Lib.join_one]; rfl
 |w :: v :: ws, _ => by
  have ih := zEc (v :: ws) zi; rw [Sc.body, ← ih]; simp [Lib.join]
theorem rooms_text (x : Sc.Scr) : ((((⟨#[114, 111, 111, 109, 115, 32]⟩ : ByteArray) ++ str (Lib.itoa x.r1)) ++ ⟨#[32]⟩) ++ str (Lib.itoa x.r2)) ++ ⟨#[32]⟩ ++ str (Lib.itoa x.r3) = str (Sc.roomsL x) := by
 have e1 : (⟨#[114, 111, 111, 109, 115, 32]⟩ : ByteArray) = str [114, 111, 111, 109, 115, 32] := rfl; have e2 : (⟨#[32]⟩ : ByteArray) = str [32] := rfl; rw [e1, e2]; simp only [xJ]
 congr 1
 simp [Sc.roomsL, Hp.join, Sc.wRooms]
theorem self_text (x : Sc.Scr) : (((⟨#[115, 101, 108, 102, 32]⟩ : ByteArray) ++ str (qP x.four)) ++ ⟨#[32]⟩) ++ str (ColonPlain.show_ x.six) = str (Sc.selfL x) := by
 have e1 : (⟨#[115, 101, 108, 102, 32]⟩ : ByteArray) = str [115, 101, 108, 102, 32] := rfl; have e2 : (⟨#[32]⟩ : ByteArray) = str [32] := rfl; rw [e1, e2]; simp only [xJ]
 congr 1
 simp [Sc.selfL, Hp.join, Sc.wSelf]
theorem dot_show (l : List UInt8) (hl : l.length = 4) (w : World) (ht : Tabs w) :
  zCB 42 #[.agg (uS l).toArray] w (.string (str (qP l))) := by
 obtain ⟨a, b, c, d, rfl⟩ : ∃ a b c d, l = [a, b, c, d] := by
  match l, hl with
  | [a, b, c, d], _ => exact ⟨a, b, c, d, rfl⟩
 exact zFp a b c d w ht
structure ShW (w : World) (base : Nat) (x : Sc.Scr) (sa : List StV) (va : Value) (k : Nat) (vl : Value) (wr : World) : Prop where
 I : InS w x sa va wr
 own : wr.ownsRow base 9 1 vl (2 + k) (flat encS ([Sc.roomsL x, Sc.selfL x] ++ (sa.take k).map fun s => Sc.lineR s.t))
 ne : ∀ s ∈ sa.take k, Sc.lineR s.t ≠ []
 hb : w.heap.size + 1 <= base
 bz : base <= wr.heap.size
theorem ShW.next {w wr w' : World} {base : Nat} {x : Sc.Scr} {sa : List StV} {va : Value} {k : Nat} {vl : Value} (h : ShW w base x sa va k vl wr) (hb : zW wr w') : ShW w base x sa va k vl w' :=
 ⟨h.I.next hb, vL h.own hb zn, h.ne, h.hb, yK h.bz hb.size⟩
theorem run_rmC (r q : Int × Int × Int) (w : World) : (Op.equalIn 10000 55 (.agg (rmA r)) (.agg (rmA q))).run prog w = .ok (decide (r = q)) w := by
 have u3 := underlying3; have a3 := isAgg3; have z3 := sizeOf3; have hS : prog.underlying 55 = some (.struct (prog.fieldsOf 55)) := kf; have hp : prog.stoodInHeld 55 = false := kf; obtain ⟨a, b, c⟩ := r; obtain ⟨d, e, f⟩ := q; unfold rmA; rw [show (10000 : Nat) = 9999 + 1 from rfl, zDj w 9999 55 _ _ hS hp]; simp only [Program.fieldsOf, underlying55]; go_simp
 by_cases h1 : a = d <;> by_cases h2 : b = e <;> by_cases h3 : c = f <;> simp [h1, h2, h3]
theorem scr_Show (x : Sc.Scr) (sa : List StV) (va : Value) (w : World) (ht : ST w) (z : Sc.Sized x) (hst : sa.map (·.t) = x.steps) (hsl : SlP (· < w.heap.size) w 36 uC va sa) (hin : ∀ s ∈ sa, xX (· < w.heap.size) w s) (hp16 : ∀ s ∈ sa, s.t.pf.addr.length = 16) (h1 : I64 x.r1) (h2 : I64 x.r2) (h3 : I64 x.r3)
  (D : ∀ s ∈ sa, SB s.t /\ (sG s.t).length <= 65536) (na : sa.length <= 1000000) (hT : (Sc.body (Sc.linesOf x)).length <= 1000000) :
  zCB 21 #[.agg (scA x va)] w (.string (str (Sc.showX x))) := by
 have HS0 : Hid (∀ w1, w1 = w.alloc (.cells (scA x va) 61) -> InS w x sa va w1 /\ w1.heap.size = w.heap.size + 1) := qh fun w1 h => by subst h; exact ⟨InS.new z hsl hin, zi⟩
 have HT := qh fun (W : World) (hb : zW w W) => ht.below hb; have HD1 := qh fun (W : World) (hb : zW w W) => jJ x.r1 h1 W (HT.o W hb).p.tabs; have HD2 := qh fun (W : World) (hb : zW w W) => jJ x.r2 h2 W (HT.o W hb).p.tabs; have HD3 := qh fun (W : World) (hb : zW w W) => jJ x.r3 h3 W (HT.o W hb).p.tabs; have HF := qh fun (W : World) (hb : zW w W) => dot_show x.four z.four W (HT.o W hb).p.tabs; have HX := qh fun (W : World) (hb : zW w W) => zBp x.six z.six W (HT.o W hb).p.ct; have l1 := uW h1; have l2 := uW h2; have l3 := uW h3; have l4 : (qP x.four).length <= 1000 := yK (showD_le z.four) zd; have l5 : (ColonPlain.show_ x.six).length <= 1000 := yK (ColonPlain.show_le z.six).2 zd; have HI4 := qh (show (prog.info? 56).map (·.size) = some (uS x.four).length from by rw [jH, z.four]; kernel_rfl); have HI6 := qh (info16' z.six); have HRT := qh (rooms_text x); have HST := qh (self_text x); generalize hE1 : Lib.itoa x.r1 = e1 at *; clear hE1; generalize hE2 : Lib.itoa x.r2 = e2 at *; clear hE2; generalize hE3 : Lib.itoa x.r3 = e3 at *; clear hE3; generalize hE4 : qP x.four = e4 at *; clear hE4; generalize hE5 : ColonPlain.show_ x.six = e5 at *; clear hE5; have z1 := zZ e1; have z2 := zZ e2; have z3 := zZ e3; have z4 := zZ e4; have z5 := zZ e5; obtain ⟨T4, hT4⟩ : ∃ T, T = (⟨#[114, 111, 111, 109, 115, 32]⟩ : ByteArray) ++ str e1 := ⟨_, rfl⟩; have y4 : T4.size = 6 + (str e1).size := by rw [hT4, yN]; try rfl
 obtain ⟨T5, hT5⟩ : ∃ T, T = T4 ++ (⟨#[32]⟩ : ByteArray) := ⟨_, rfl⟩; have y5 : T5.size = T4.size + 1 := by rw [hT5, yN]; try rfl
 obtain ⟨T10, hT10⟩ : ∃ T, T = T5 ++ str e2 := ⟨_, rfl⟩; have y10 : T10.size = T5.size + (str e2).size := by rw [hT10, yN]; try rfl
 obtain ⟨T11, hT11⟩ : ∃ T, T = T10 ++ (⟨#[32]⟩ : ByteArray) := ⟨_, rfl⟩; have y11 : T11.size = T10.size + 1 := by rw [hT11, yN]; try rfl
 have HT16 : Hid (T11 ++ str e3 = str (Sc.roomsL x)) := qh (by rw [hT11, hT10, hT5, hT4]; exact HRT.o); obtain ⟨T21, hT21⟩ : ∃ T, T = (⟨#[115, 101, 108, 102, 32]⟩ : ByteArray) ++ str e4 := ⟨_, rfl⟩; have y21 : T21.size = 5 + (str e4).size := by rw [hT21, yN]; try rfl
 obtain ⟨T22, hT22⟩ : ∃ T, T = T21 ++ (⟨#[32]⟩ : ByteArray) := ⟨_, rfl⟩; have y22 : T22.size = T21.size + 1 := by rw [hT22, yN]; try rfl
 have HT27 : Hid (T22 ++ str e5 = str (Sc.selfL x)) := qh (by rw [hT22, hT21]; exact HST.o); have HT4 := qh hT4; have HT5 := qh hT5; have HT10 := qh hT10; have HT11 := qh hT11; have HT21 := qh hT21; have HT22 := qh hT22; clear hT4 hT5 hT10 hT11 hT21 hT22 HRT HST
 have HLN : Hid (∀ s ∈ sa, ∀ W, InS w x sa va W -> zCB 14 #[.agg (zY s)] W (.string (str (Sc.lineR s.t)))) := qh fun s hs W h => by
  have := scr_Line s W (HT.o W h.bel) ((h.inn s hs).imp fun _ _ => trivial) (hp16 s hs) (D s hs).1 (D s hs).2; rw [zAb] at this; exact this
 have HLL : Hid (∀ s ∈ sa, (Sc.lineR s.t).length <= 65536) := qh fun s hs => by
  rw [← zAb]; unfold tH
  split
  ·exact (D s hs).2
  ·exact yQ _
 have HTOT : Hid (Sc.linesOf x = [Sc.roomsL x, Sc.selfL x] ++ sa.map fun s => Sc.lineR s.t) := qh (by
  unfold Sc.linesOf; rw [← hst, kJ]; rfl)
 obtain ⟨pa, ca, hva, -⟩ := hsl; have HVA := qh hva; have HST2 := qh hst; have HZ := qh z; have HON : Hid (∀ s ∈ sa, ∀ W, InS w x sa va W -> (zY s).all (·.oneCell') = true) := qh fun s hs W h => uB.one (h.inn s hs); clear hva hst hin hp16 D z
 go_enter func21, ntmps21
 go_upto_region 1 with (refine yS (w := w) rfl _ (.tmp 0) rf (scA x va) rf ?_; intro w1 E1; have HS := qh (HS0.o w1 E1).1; have hz1 := (HS0.o w1 E1).2; clear E1)
 have HD : Hid (InS w x sa va w1.drew) := qh (HS.o.next (zb.drew)); refine yB (S := InS w x sa va) kf HD.o (fun hHeld => ?_); refine kq 0 ?_; refine kq 1 ?_; refine kh 2 (fun w h => h.A.c0) ?_; refine kq 6 ?_; refine kq 7 ?_; refine kh 8 (fun w h => h.A.c1) ?_; refine kq 12 ?_; refine kq 13 ?_; refine kh 14 (fun w h => h.A.c2) ?_; refine kq 17 ?_; refine kq 18 ?_; refine kY 19 rfl (qY rf _ _ rfl (w.heap.size) (3) rfl (uS x.four) _ (fun w h => h.A.fourR) underlying56 rfl (HI4.o)) ?_; refine kq 23 ?_; refine kq 24 ?_; refine kY 25 rfl (qY rf _ _ rfl (w.heap.size) (7) rfl (uS x.six) _ (fun w h => h.A.sixR) underlying24 rfl (HI6.o)) ?_; refine zS 3 fun K hK => ?_; go_simp; refine zT (HD1.o _ hHeld.bel) fun w9 hb9 => ?_; have HV9 := hHeld.next hb9; go_wp2_with fail
 refine zK hK (HV9) fun hHeld => ?_; clear hK K; refine kq 4 ?_ (v := .string T4) (hy := by intro w hSw; go_simp; try (rw [zH om, HT4.o])); refine kq 5 ?_ (v := .string T5) (hy := by intro w hSw; go_simp; try (rw [zH om, HT5.o])); refine zS 9 fun K hK => ?_; go_simp; refine zT (HD2.o _ hHeld.bel) fun w9 hb9 => ?_; have HV9 := hHeld.next hb9; go_wp2_with fail
 refine zK hK (HV9) fun hHeld => ?_; clear hK K; refine kq 10 ?_ (v := .string T10) (hy := by intro w hSw; go_simp; try (rw [zH om, HT10.o])); refine kq 11 ?_ (v := .string T11) (hy := by intro w hSw; go_simp; try (rw [zH om, HT11.o])); refine zS 15 fun K hK => ?_; go_simp; refine zT (HD3.o _ hHeld.bel) fun w9 hb9 => ?_; have HV9 := hHeld.next hb9; go_wp2_with fail
 refine zK hK (HV9) fun hHeld => ?_; clear hK K; refine kq 16 ?_ (v := .string (str (Sc.roomsL x))) (hy := by intro w hSw; go_simp; try (rw [zH om, HT16.o])); refine zS 20 fun K hK => ?_; go_simp; refine zT (HF.o _ hHeld.bel) fun w9 hb9 => ?_; have HV9 := hHeld.next hb9; go_wp2_with fail
 refine zK hK (HV9) fun hHeld => ?_; clear hK K; refine kq 21 ?_ (v := .string T21) (hy := by intro w hSw; go_simp; try (rw [zH om, HT21.o])); refine kq 22 ?_ (v := .string T22) (hy := by intro w hSw; go_simp; try (rw [zH om, HT22.o])); refine zS 26 fun K hK => ?_; go_simp; refine zT (HX.o _ hHeld.bel) fun w9 hb9 => ?_; have HV9 := hHeld.next hb9; go_wp2_with fail
 refine zK hK (HV9) fun hHeld => ?_; clear hK K; refine kq 27 ?_ (v := .string (str (Sc.selfL x))) (hy := by intro w hSw; go_simp; try (rw [zH om, HT27.o])); refine zS 28 fun K hK => ?_; go_simp; refine zK hK (hHeld.next (yD _ _)) fun hHeld => ?_; clear hK K; refine kq 29 ?_; refine zD ?_; have hz9 : w.heap.size + 1 <= w9.heap.size := HV9.A.lt; have HW0 : Hid (ShW w w9.heap.size x sa va 0 (.slice (some ⟨w9.heap.size, 0, none⟩) 2 2) (w9.alloc (.cells #[.string (str (Sc.roomsL x)), .string (str (Sc.selfL x))] 9))) := qh ⟨hHeld, zAe w9 9 #[.string (str (Sc.roomsL x)), .string (str (Sc.selfL x))] 2 rfl om, (fun s hs => by cases hs), hz9, zi⟩; clear HD HD1 HD2 HD3 HF HX HT4 HT5 HT10 HT11 HT16 HT21 HT22 HT27 HS HS0 hHeld HV9; generalize w9.alloc (.cells #[.string (str (Sc.roomsL x)), .string (str (Sc.selfL x))] 9) = wB at *; generalize w9.heap.size = base at *; have a23 := HW0.o.I.A.c23; rw [HVA.o] at a23; go_wp2_with fail
 go_loopw [3, 5, 6, 43] (fun vl _ _ vi wr => ∃ k : Nat, vi = .int .i64 k /\ k <= sa.length /\ Hid (ShW w base x sa va k vl wr)) (fun _ _ _ vi _ => sa.length - (intOf vi).toNat)
 case atStart => exact ⟨0, rfl, yQ _, HW0⟩
 case round =>
  clear HW0 a23; obtain ⟨k, rfl, hk, HU⟩ := hrel; have hbw := HU.o.hb; have hbz := HU.o.bz
  by_cases hlt : k < sa.length
  ·obtain ⟨b1, o1, rfl, hR1⟩ := HU.o.I.range HVA.o hlt
   have HC := qh hR1; have HL1 := qh (HLN.o _ (yU hlt)); have HL2 := HLL.o _ (yU hlt); have HON1 := qh (HON.o _ (yU hlt) _ HU.o.I); have HTA : Hid (sa.take (k + 1) = sa.take k ++ [sa[k]]) := qh (yA hlt); have HGA : Hid (sa[k] ∈ sa) := qh (yU _); have HI1 : Hid ((prog.info? 37).map (·.size) = some (uC sa[k]).length) := qh (by rw [kX]; exact uQ); clear hR1; generalize sa[k] = p at *; obtain ⟨ln, hln⟩ : ∃ l, l = Sc.lineR p.t := ⟨_, rfl⟩; rw [← hln] at HL1 HL2; have HL := qh hln; clear hln
   go_upto_region 4 with fail
   refine jD ?_
   iterate 3 go_step
   refine xV 37 (.tmp 45) rf rf b1 (o1 + k * 36) rf (uC p) _ (HC.o _ HU.o.I) underlying37 rfl HI1.o ?_; simp only [qA, qB, qC, qD, qE, qF, qG]; refine zQ (w := wr) rfl 37 rf _ bJ ?_; intro w2 E2; have HX2 : Hid (Blk w2 wr.heap.size 37 (zY (sv Sc.z))) := (by rw [E2]; exact qh (Blk.new _ _ _)); have HB2 : Hid (zW wr w2) := (by rw [E2]; exact qh (yD _ _)); clear E2; simp only [qA, qB, qC, qD, qE, qF, qG]; refine zJ rfl 37 (.tmp 5) (.tmp 46) rf wr.heap.size (zY p) rf rf _ _ HX2.o (by rw [zO]; exact uQ) (by rw [zO, zO]) HON1.o ?_; intro w3 E3; have HX3 : Hid (Blk w3 wr.heap.size 37 (zY p)) := (by rw [E3]; exact qh (HX2.o.setRow _)); have HU3 : Hid (ShW w base x sa va k u3 w3) := (by rw [E3]; exact qh (HU.o.next (below_setRow HB2.o zn _))); clear E3
   go_wp2_with (refine yI rf 37 (.tmp 5) rf wr.heap.size rf _ (zY p) (0, 0) _ HX3.o underlying37 rfl (by rw [zO]; exact uQ) ?_)
   refine zT (HL1.o _ HU3.o.I) fun w4 hb4 => ?_; have HU4 := qh (HU3.o.next hb4); clear hb4; clear HU HX2 HB2 HX3 HU3 HC HI1 HON1
   by_cases hl : ln = []
   ·have hem : ln.isEmpty = true := by rw [hl]; rfl
    have htl := vX
    have HE0 : Hid (Sc.showX x = []) := qh (zN (by
     rw [← HST2.o, kJ]; exact vB.2 ⟨p, HGA.o, by show Sc.lineR p.t = []; rw [← HL.o, hl]⟩))
    clear hl
    go_wp2
    go_ret
    exact ⟨by rw [HE0.o]; rfl, HU4.o.I.bel⟩
   ·have hem : ln.isEmpty = false := by
     cases ln with
     | nil => exact absurd rfl hl
     | cons a b => rfl
    have htl := vX; have HNE := qh hl; clear hl; have HO5 := qh HU4.o.own; have hz5 := HU4.o.bz
    have HNX : Hid (∀ v' w', w'.ownsRow base 9 1 v' (2 + k + 1) (flat encS ([Sc.roomsL x, Sc.selfL x] ++ (sa.take k).map fun s => Sc.lineR s.t) ++ [.string (str ln)]) -> InS w x sa va w' -> base <= w'.heap.size -> ShW w base x sa va (k + 1) v' w') := qh fun v' w' ho hi hz => by
     refine ⟨hi, ?_, fun s hs => ?_, hbw, hz⟩
     ·rw [HTA.o, jT, ← xQ, vK]
      rw [show 2 + (k + 1) = 2 + k + 1 from om]; have : flat encS ([p].map fun s => Sc.lineR s.t) = [.string (str ln)] := by rw [HL.o]; rfl
      rw [this]; exact ho
     ·rw [HTA.o] at hs
      rcases xR.1 hs with h | h
      ·exact HU4.o.ne s h
      ·rw [xS.1 h, ← HL.o]; exact HNE.o
    go_wp2_with (at_builtin; go_loud (refine uR rT rfl (.tmp 51) (.tmp 53) rfl base u3 _ _ rfl HO5.o 1 1 [.string (str ln)] rfl rfl (by simp [Value.oneCell']) om om ?_; intro v8 w8 hown8 hgr8 hob8 hb8; have HN8 := qh (HNX.o _ _ hown8 (HU4.o.I.grown hgr8 (fun b e => by have := nC HO5.o e; omega)) (yK hz5 hgr8.size)); clear hown8 hgr8 hob8 hb8))
    exact ⟨⟨k + 1, by go_num, om, HN8⟩, by simp [intOf]; omega⟩
  ·obtain rfl : k = sa.length := om
   have HSH : Hid (Sc.showX x = match Sc.parseX (Sc.body (Sc.linesOf x)) with
    | .ok y => if (y.r1, y.r2, y.r3) = (x.r1, x.r2, x.r3) then Sc.body (Sc.linesOf x) else []
    |.error _ => []) := qh (zH (by
     rw [← HST2.o, kJ]; intro hm; obtain ⟨s, hs, e⟩ := vB.1 hm; exact HU.o.ne s (by rw [xK]; exact hs) e))
   have hLL : (Sc.linesOf x).length = 2 + sa.length := by rw [HTOT.o]; simp; omega
   have HBD : Hid (str (Sc.body (Sc.linesOf x)) = str (Lib.join (Sc.linesOf x) [10]) ++ ⟨#[10]⟩) := qh (by
    rw [← zEc _ (by rw [HTOT.o]; simp), ← xJ]; rfl)
   have hJL : (Lib.join (Sc.linesOf x) [10]).length <= 1000000 := by
    have := yG List.length (zEc (Sc.linesOf x) (by rw [HTOT.o]; simp)); simp only [zG, zI, xI] at this; omega
   have HV9 : Hid (SlR wr 1 encS u3 (Sc.linesOf x)) := qh (by
    have h := SlR.of_owns vU (xs := [Sc.roomsL x, Sc.selfL x] ++ (sa.take sa.length).map fun s => Sc.lineR s.t) (by
     have h0 := HU.o.own; rw [show 2 + sa.length = ([Sc.roomsL x, Sc.selfL x] ++ (sa.take sa.length).map fun s => Sc.lineR s.t).length from zo] at h0; exact h0)
    rw [xK, ← HTOT.o] at h; exact h)
   have HPE := qh fun k2 => parse_code (s := Sc.body (Sc.linesOf x)) (k := k2); have HPR := qh fun (W : World) (hb : zW w W) => pJ (Sc.body (Sc.linesOf x)) hT W (HT.o W hb); rw [HBD.o] at HPR; have HJ : Hid (∀ W v, SlR W 1 encS v (Sc.linesOf x) -> zCB 34 #[v, .string ⟨#[10]⟩] W (.string (str (Lib.join (Sc.linesOf x) [10])))) := qh fun W v hv => joinC_any 10 _ om om v W hv; clear hLL; have zj := zZ (Lib.join (Sc.linesOf x) [10]); generalize hJ0 : str (Lib.join (Sc.linesOf x) [10]) = TJ at *; clear hJ0; obtain ⟨p9, c9, rfl, -, -, -⟩ := HV9.o; have HS5 := qh HU.o.I; clear HTOT HLN HLL HU; generalize Sc.body (Sc.linesOf x) = TX at *; generalize Sc.parseX TX = o at *; generalize Sc.linesOf x = L at *; go_wp2_with fail
   refine zT (HJ.o _ _ HV9.o) fun w6 hb6 => ?_; have HS6 := qh (HS5.o.next hb6); clear hb6 HJ HV9; go_wp2_with fail
   refine (HPR.o _ HS6.o.bel).mono ?_; rintro e w9 ⟨y, sy, vy, c, n, rfl, hy, hb9, ho1, ho2⟩; have HS9 := qh (HS6.o.next hb9); have HVO : Hid (vy.oneCell' = true) := qh (by obtain ⟨p, d, rfl, -⟩ := hy.sl; rfl); have HZY : Hid ((prog.info? 61).map (·.size) = some (scA y vy).size) := qh (by rw [qM hy.z]; exact infoSc); have HZE : Hid ((scA scrZ (.slice none 0 0)).size = (scA y vy).size) := qh (by rw [qM hy.z]; rfl)
   have HK : Hid (∀ wa wb, wa = w9.alloc (.cells (scA scrZ (.slice none 0 0)) 61) -> wb = wa.setRow w9.heap.size (scA y vy) -> ScAt 61 wb w9.heap.size y vy /\ zW w9 wb) := qh fun wa wb h1 h2 => by
    subst h1 h2; exact ⟨⟨(Blk.new _ _ _).setRow _, hy.z⟩, below_setRow (yD _ _) zn _⟩
   have HO1 := qh ho1; have HO2 := qh ho2; clear hy hb9 ho1 ho2
   cases o with
   |error k2 =>
    have hcd : (c != 0) = true := by simp only [jZ, qR]; rw [(HO2.o k2 rfl).2.1]; exact HPE.o k2 rfl
    have HRES : Hid (Sc.showX x = []) := qh HSH.o; clear HO1 HO2 HPE HSH
    go_upto_region 12 with (first
     | (refine zQ rfl 61 rf _ nQ ?_; intro w10 h10; have HE10 := qh h10; have HX10 : Hid (Blk w10 w9.heap.size 61 (scA scrZ (.slice none 0 0))) := (by rw [h10]; exact qh (Blk.new _ _ _)); clear h10)
     | (refine zJ rfl 61 (.tmp 8) (.tmp 62) rf w9.heap.size (scA y vy) rf rf _ _ HX10.o HZY.o HZE.o (fB HVO.o) ?_; intro w11 h11; have HY11 := qh (HK.o w10 w11 HE10.o h11).1; have HS11 := qh (HS9.o.next (HK.o w10 w11 HE10.o h11).2); clear h11))
    refine jD ?_
    iterate 8 go_step
    generalize hA : (Act.mk _ _ : Act) = A; rename_i K hK; refine hK A _ ?_; clear hK K
    iterate 5 (refine aH (by rw [← hA]; kernel_rfl) (by rw [← hA]; kernel_rfl) ?_)
    subst hA
    go_wp2
    go_ret
    exact ⟨by rw [HRES.o]; rfl, HS11.o.bel⟩
   |ok z2 =>
    obtain ⟨hy1, hc1, -⟩ := HO1.o z2 rfl; subst hy1 hc1; clear HO1 HO2 HPE; have hq := fun w => run_rmC (y.r1, y.r2, y.r3) (x.r1, x.r2, x.r3) w; have hg := fun w op a b => GuardAt.agg (P := prog) (T := 55) (fun c : Array Value => c) kf op a b (rmA (y.r1, y.r2, y.r3)) (rmA (x.r1, x.r2, x.r3)) w; have HIA : Hid ((prog.info? 55).map (·.size) = some (rmA (y.r1, y.r2, y.r3)).toList.length) := qh kf; have HIB : Hid ((prog.info? 55).map (·.size) = some (rmA (x.r1, x.r2, x.r3)).toList.length) := qh kf; have HRY : Hid (∀ W, ScAt 61 W w9.heap.size y vy -> W.rangeAt w9.heap.size 0 (rmA (y.r1, y.r2, y.r3)).toList) := qh fun W h => h.rm; have HRX : Hid (∀ W, InS w x sa va W -> W.rangeAt w.heap.size 0 (rmA (x.r1, x.r2, x.r3)).toList) := qh fun W h => h.A.rm; generalize hRY : rmA (y.r1, y.r2, y.r3) = RY at *; generalize hRX : rmA (x.r1, x.r2, x.r3) = RX at *; clear hRY hRX
    by_cases he : (y.r1, y.r2, y.r3) = (x.r1, x.r2, x.r3)
    ·have HRES : Hid (Sc.showX x = TX) := qh (HSH.o.trans (zN he))
     rw [zV he] at hq; clear he HSH
     go_upto_region 12 with (first
      | (refine zQ rfl 61 rf _ nQ ?_; intro w10 h10; have HE10 := qh h10; have HX10 : Hid (Blk w10 w9.heap.size 61 (scA scrZ (.slice none 0 0))) := (by rw [h10]; exact qh (Blk.new _ _ _)); clear h10)
      | (refine zJ rfl 61 (.tmp 8) (.tmp 62) rf w9.heap.size (scA y vy) rf rf _ _ HX10.o HZY.o HZE.o (fB HVO.o) ?_; intro w11 h11; have HY11 := qh (HK.o w10 w11 HE10.o h11).1; have HS11 := qh (HS9.o.next (HK.o w10 w11 HE10.o h11).2); clear h11))
     refine jD ?_
     iterate 11 go_step
     refine xV 55 (.tmp 68) rf rf w9.heap.size 0 rf RY.toList _ (HRY.o _ HY11.o) underlying55 rfl HIA.o ?_; simp only [qA, qB, qC, qD, qE, qF, qG]
     iterate 2 go_step
     refine xV 55 (.tmp 70) rf rf w.heap.size 0 rf RX.toList _ (HRX.o _ HS11.o) underlying55 rfl HIB.o ?_; simp only [qA, qB, qC, qD, qE, qF, qG]
     go_wp2
     go_ret
     exact ⟨by rw [HRES.o, HBD.o]; rfl, HS11.o.bel⟩
    ·have HRES : Hid (Sc.showX x = []) := qh (HSH.o.trans (zH he))
     rw [zM he] at hq; clear he HSH
     go_upto_region 12 with (first
      | (refine zQ rfl 61 rf _ nQ ?_; intro w10 h10; have HE10 := qh h10; have HX10 : Hid (Blk w10 w9.heap.size 61 (scA scrZ (.slice none 0 0))) := (by rw [h10]; exact qh (Blk.new _ _ _)); clear h10)
      | (refine zJ rfl 61 (.tmp 8) (.tmp 62) rf w9.heap.size (scA y vy) rf rf _ _ HX10.o HZY.o HZE.o (fB HVO.o) ?_; intro w11 h11; have HY11 := qh (HK.o w10 w11 HE10.o h11).1; have HS11 := qh (HS9.o.next (HK.o w10 w11 HE10.o h11).2); clear h11))
     refine jD ?_
     iterate 11 go_step
     refine xV 55 (.tmp 68) rf rf w9.heap.size 0 rf RY.toList _ (HRY.o _ HY11.o) underlying55 rfl HIA.o ?_; simp only [qA, qB, qC, qD, qE, qF, qG]
     iterate 2 go_step
     refine xV 55 (.tmp 70) rf rf w.heap.size 0 rf RX.toList _ (HRX.o _ HS11.o) underlying55 rfl HIB.o ?_; simp only [qA, qB, qC, qD, qE, qF, qG]
     go_wp2
     go_ret
     exact ⟨by rw [HRES.o]; rfl, HS11.o.bel⟩
theorem SlR.low {α : Type} {w : World} {k : Nat} {enc : α -> List Value} {v : Value} {xs : List α} (h : SlR w k enc v xs) : SlP (· < w.heap.size) w k enc v xs := by
 obtain ⟨p, c, rfl, h1, h2, hR⟩ := h; exact ⟨p, c, rfl, h1, h2, hR, fun a ha hn => (hR.2 a ha hn).2.1⟩
theorem ScIn.low {w : World} {x : Sc.Scr} {sa : List StV} {v : Value} (h : ScIn xX w x sa v) : SlP (· < w.heap.size) w 36 uC v sa /\ ∀ s ∈ sa, xX (· < w.heap.size) w s := ⟨h.sl.low, fun s hs => (h.inn s hs).bd2.imp fun _ hb => hb.2⟩
structure ShOK (x : Sc.Scr) : Prop where
 h1 : I64 x.r1
 h2 : I64 x.r2
 h3 : I64 x.r3
 D : ∀ t ∈ x.steps, SB t /\ (sG t).length <= 65536 /\ (Sc.textD t).length <= 65536
 na : x.steps.length <= 1000
 hT : (Sc.body (Sc.linesOf x)).length <= 1000000
theorem ScIn.len {IN : (Nat -> Prop) -> World -> StV -> Prop} {w : World} {x : Sc.Scr} {sa : List StV} {v : Value} (h : ScIn IN w x sa v) : sa.length = x.steps.length := by rw [← h.st, yX]
theorem ScIn.mem {IN : (Nat -> Prop) -> World -> StV -> Prop} {w : World} {x : Sc.Scr} {sa : List StV} {v : Value} (h : ScIn IN w x sa v) {s : StV} (hs : s ∈ sa) : s.t ∈ x.steps := by rw [← h.st]; exact mH hs
theorem show_in {x : Sc.Scr} (O : ShOK x) {sa : List StV} {v : Value} {w : World} (ht : ST w) (A : ScIn xX w x sa v) :
  zCB 21 #[.agg (scA x v)] w (.string (str (Sc.showX x))) :=
 scr_Show x sa v w ht A.z A.st A.low.1 A.low.2 A.p16 O.h1 O.h2 O.h3 (fun s hs => ⟨(O.D _ (A.mem hs)).1, (O.D _ (A.mem hs)).2.1⟩) (by have := A.len; have := O.na; omega) O.hT
theorem showD_in {x : Sc.Scr} (O : ShOK x) {sa : List StV} {v : Value} {w : World} (A : ScIn vG w x sa v) :
  zCB 22 #[.agg (scA x v)] w (.string (str (Sc.showX x))) :=
 r32_Show x sa v w A O.h1 O.h2 O.h3 (fun s hs => ⟨A.p16 s hs, A.inn s hs, (O.D _ (A.mem hs)).1, (O.D _ (A.mem hs)).2.2⟩) (by have := A.len; have := O.na; omega) O.hT
theorem zCv {x : Sc.Scr} (na : x.steps.length <= 1000000) {sa : List StV} {v : Value} {w : World} (A : ScIn xX w x sa v) :
  Calls prog 19 #[.agg (scA x v)] w fun e w' => ∃ v, e = .returned (.agg (scA x v)) /\ ScIn vG w' x (sa.map svS) v /\ zW w w' :=
 law32_plain x sa v w A A.low.1 A.low.2 (by have := A.len; omega)
structure Bx (T : TypeId) (IN : (Nat -> Prop) -> World -> StV -> Prop) (w : World) (X : Nat) (s : StV) (W : World) : Prop where
 b : Blk W X T (zY s)
 p16 : s.t.pf.addr.length = 16
 inn : IN (fun _ => True) W s
 bel : zW w W
theorem Bx.next {T : TypeId} {IN : (Nat -> Prop) -> World -> StV -> Prop} (G : Good IN) {w : World} {X : Nat} {s : StV} {W W' : World} (h : Bx T IN w X s W) (hb : zW W W') : Bx T IN w X s W' := ⟨h.b.below hb h.b.lt, h.p16, G.below h.inn hb, h.bel.trans (hb.mono h.bel.size)⟩
theorem Bx.new {T : TypeId} {IN : (Nat -> Prop) -> World -> StV -> Prop} (G : Good IN) {w W wa wb : World} {s : StV} {old : Array Value} (hi : IN (fun _ => True) W s) (p16 : s.t.pf.addr.length = 16) (hB : zW w W) (h1 : wa = W.alloc (.cells old T)) (h2 : wb = wa.setRow W.heap.size (zY s)) : Bx T IN w W.heap.size s wb /\ zW W wb := by
 subst h1 h2; have hb : zW W ((W.alloc (.cells old T)).setRow W.heap.size (zY s)) := below_setRow (yD _ _) zn _; exact ⟨⟨(Blk.new _ _ _).setRow _, p16, G.below hi hb, hB.trans (hb.mono hB.size)⟩, hb⟩
structure BxS (T : TypeId) (IN : (Nat -> Prop) -> World -> StV -> Prop) (w : World) (X : Nat) (x : Sc.Scr) (sa : List StV) (v : Value) (W : World) : Prop where
 b : Blk W X T (scA x v)
 inn : ScIn IN W x sa v
 bel : zW w W
theorem BxS.next {T : TypeId} {IN : (Nat -> Prop) -> World -> StV -> Prop} (G : Good IN) {w : World} {X : Nat} {x : Sc.Scr} {sa : List StV} {v : Value} {W W' : World} (h : BxS T IN w X x sa v W) (hb : zW W W') : BxS T IN w X x sa v W' := ⟨h.b.below hb h.b.lt, h.inn.below G hb, h.bel.trans (hb.mono h.bel.size)⟩
theorem BxS.new {T : TypeId} {IN : (Nat -> Prop) -> World -> StV -> Prop} (G : Good IN) {w W wa wb : World} {x : Sc.Scr} {sa : List StV} {v : Value} {old : Array Value} (hi : ScIn IN W x sa v) (hB : zW w W) (h1 : wa = W.alloc (.cells old T)) (h2 : wb = wa.setRow W.heap.size (scA x v)) : BxS T IN w W.heap.size x sa v wb /\ zW W wb := by
 subst h1 h2; have hb : zW W ((W.alloc (.cells old T)).setRow W.heap.size (scA x v)) := below_setRow (yD _ _) zn _; exact ⟨⟨(Blk.new _ _ _).setRow _, hi.below G hb, hB.trans (hb.mono hB.size)⟩, hb⟩
theorem ScIn.one {IN : (Nat -> Prop) -> World -> StV -> Prop} {w : World} {x : Sc.Scr} {sa : List StV} {v : Value} (h : ScIn IN w x sa v) : (scA x v).all (·.oneCell') = true := fB (by obtain ⟨p, d, rfl, -⟩ := h.sl; rfl)
theorem ScIn.sz {IN : (Nat -> Prop) -> World -> StV -> Prop} {w : World} {x : Sc.Scr} {sa : List StV} {v : Value} (h : ScIn IN w x sa v) : (scA x v).size = 24 := qM h.z v
theorem ScIn.iS {IN : (Nat -> Prop) -> World -> StV -> Prop} {w : World} {x : Sc.Scr} {sa : List StV} {v : Value} (h : ScIn IN w x sa v) : (prog.info? 61).map (·.size) = some (scA x v).size := by rw [h.sz]; exact infoSc
theorem ScIn.iX {IN : (Nat -> Prop) -> World -> StV -> Prop} {w : World} {x : Sc.Scr} {sa : List StV} {v : Value} (h : ScIn IN w x sa v) : (prog.info? 69).map (·.size) = some (scA x v).size := by rw [h.sz]; exact infoX
theorem ScIn.zz {IN : (Nat -> Prop) -> World -> StV -> Prop} {w : World} {x : Sc.Scr} {sa : List StV} {v : Value} (h : ScIn IN w x sa v) : (scA scrZ (.slice none 0 0)).size = (scA x v).size := by rw [h.sz, qM lI]
theorem rP {P : Program} {ops : Array Oper} {rest : List Oper} {o : Oper} {a : Act} {w : World} {Q : Exit -> Act -> World -> Prop} (hw : Region.wanted o (yielded ops a.tmps) = true) (t : TypeId) (parts : Array (Nat × Operand)) (ho : o.op = .build t parts)
  (pl : List (Nat × Operand)) (hp : parts.toList = pl) (cells : Array Value) (hf : P.built t (pl.map fun (i, x) => (i, a.eval x)) = some cells)
  (h : wpList P ops Q rest (a.put o.dst (.agg cells)) w) : wpList P ops Q (o :: rest) a w := by
 have hf' : P.built t (parts.map fun (i, x) => (i, a.eval x)).toList = some cells := by rw [Array.toList_map, hp]; exact hf
 refine mE hw fun _ hK => wp_build t parts ho (by rw [hf']; rfl) (by rw [hf']; exact hK _ _ h)
instance (n : Int) : Decidable (I64 n) := by unfold I64; infer_instance
theorem sb_A : SB stA := ⟨zd, zd, zd, zd, zd, zd, zd, ⟨zd, zd, (fun n hn => by cases hn), (fun n hn => by cases hn), zd, zd⟩, zd, zd, zd, zd⟩
theorem sb_H : SB stH := ⟨zd, zd, zd, zd, zd, zd, zd, ⟨zd, zd, (fun n hn => by cases hn), (fun n hn => by cases hn), zd, zd⟩, zd, zd, zd, zd⟩
theorem sb_P : SB stP := ⟨zd, zd, zd, zd, zd, zd, zd, ⟨zd, zd, (fun n hn => by cases hn), (fun n hn => by cases hn), zd, zd⟩, zd, zd, zd, zd⟩
theorem sml_A : Sml stA := ⟨sb_A, zd, zd, zd, zd, zd, zd⟩
theorem sml_H : Sml stH := ⟨sb_H, zd, zd, zd, zd, zd, zd⟩
theorem sml_P : Sml stP := ⟨sb_P, zd, zd, zd, zd, zd, zd⟩
theorem ok_X : ShOK scX := ⟨zd, zd, zd, fun t ht => by
 have h : Sml t := by
  rcases yR.1 ht with rfl | ht
  ·exact sml_H
  ·rw [xS.1 ht]; exact sml_P
 exact ⟨h.sb, yK (sU h) zd, yK (zAg h) zd⟩, zd, by rw [ex_Z]; decide⟩
theorem ex_S : Sc.showX scX = exZ := by
 have := Sc.parse_inv ex_X; rw [(Sc.inv_back this.1 (yK this.2 zd)).1, ex_Z]
def slX : Array Value := slA [10, 0, 0, 1] [0, 0, 0, 0, 0, 0, 0, 0, 0, 0, 0, 0, 0, 0, 0, 1]
theorem selfF_eq (w : World) : (Op.equalIn 10000 58 (.agg slX) (.agg slX)).run prog w = .ok true w := kf
theorem built_F : prog.built 56 [(0, .int .u8 10), (1, .int .u8 0), (2, .int .u8 0), (3, .int .u8 1)] = some #[.int .u8 10, .int .u8 0, .int .u8 0, .int .u8 1] := kf
theorem built_G : prog.built 24 [(15, .int .u8 1)] = some (uS [0, 0, 0, 0, 0, 0, 0, 0, 0, 0, 0, 0, 0, 0, 0, 1]).toArray := kf
theorem built_H : prog.built 58 [(0, .agg #[.int .u8 10, .int .u8 0, .int .u8 0, .int .u8 1]), (1, .agg (uS [0, 0, 0, 0, 0, 0, 0, 0, 0, 0, 0, 0, 0, 0, 0, 1]).toArray)] = some slX := kf
structure Aw (w : World) (X1 X2 X3 : Nat) (s1 s2 : StV) (sa : List StV) (v : Value) (W : World) : Prop where
 a : Bx 37 xX w X1 s1 W
 b : Bx 37 xX w X2 s2 W
 x : BxS 61 xX w X3 scX sa v W
theorem Aw.next {w : World} {X1 X2 X3 : Nat} {s1 s2 : StV} {sa : List StV} {v : Value} {W W' : World} (h : Aw w X1 X2 X3 s1 s2 sa v W) (hb : zW W W') : Aw w X1 X2 X3 s1 s2 sa v W' := ⟨h.a.next uB hb, h.b.next uB hb, h.x.next uB hb⟩
theorem zEk (w : World) (ht : ST w) : zCB 8 #[] w (.bool true) := by
 have HT := qh fun (W : World) (hb : zW w W) => ht.below hb
 have PA : Hid (∀ W, zW w W -> Calls prog 10 #[.string ⟨#[98, 105, 110, 100, 32, 49, 48, 48, 32, 48, 42, 49, 32, 50, 42, 51]⟩] W (zEi (some stA) W)) := qh fun W hb => by
  have h := oG exA zd W (HT.o W hb); rw [ex_A] at h; exact h
 have PB : Hid (∀ W, zW w W -> Calls prog 10 #[.string ⟨#[109, 112, 108, 115, 32, 49, 32, 48, 48, 48, 54, 52, 48, 48, 53]⟩] W (zEi (some stB) W)) := qh fun W hb => by
  have h := oG exB zd W (HT.o W hb); rw [ex_B] at h; exact h
 have PC : Hid (∀ W, zW w W -> Calls prog 10 #[.string ⟨#[98, 105, 110, 100, 32, 49, 48, 48]⟩] W (zEi (none) W)) := qh fun W hb => by
  have h := oG exC zd W (HT.o W hb); rw [ex_C] at h; exact h
 have PX : Hid (∀ W, zW w W -> Calls prog 16 #[.string ⟨#[35, 32, 120, 10, 114, 111, 111, 109, 115, 32, 52, 32, 53, 32, 54, 10, 115, 101, 108, 102, 32, 49, 48, 46, 48, 46, 48, 46, 49, 32, 58, 58, 49, 10, 104, 111, 112, 32, 112, 111, 112, 32, 112, 111, 114, 116, 32, 50, 10, 105, 112, 32, 48, 32, 45]⟩] W (RetScr xX (.ok scX) W)) := qh fun W hb => by
  have h := pJ exX zd W (HT.o W hb); rw [ex_X] at h; exact h
 have PY : Hid (∀ W, zW w W -> Calls prog 16 #[.string ⟨#[112, 111, 114, 116, 32, 49, 32, 50, 10, 112, 111, 114, 116, 32, 49]⟩] W (RetScr xX (.error (20, 2)) W)) := qh fun W hb => by
  have h := pJ exY zd W (HT.o W hb); rw [ex_Y] at h; exact h
 have PL : Hid (∀ W s, s.t = stA -> zW w W -> xX (fun _ => True) W s -> zCB 14 #[.agg (zY s)] W (.string ⟨#[98, 105, 110, 100, 32, 49, 48, 48, 32, 48, 42, 49, 32, 50, 42, 51]⟩)) := qh fun W s hs hb hi => by
  have h := scr_Line s W (HT.o W hb) hi (by rw [hs]; decide) (by rw [hs]; exact sb_A) (by rw [hs]; exact yK (sU sml_A) zd); rw [zAb, hs, Sc.one_line ex_A] at h; exact h
 have PS : Hid (∀ W sa v, zW w W -> ScIn xX W scX sa v -> zCB 21 #[.agg (scA scX v)] W (.string ⟨#[114, 111, 111, 109, 115, 32, 52, 32, 53, 32, 54, 10, 115, 101, 108, 102, 32, 49, 48, 46, 48, 46, 48, 46, 49, 32, 58, 58, 49, 10, 104, 111, 112, 32, 112, 111, 112, 32, 112, 111, 114, 116, 32, 50, 10, 105, 112, 32, 48, 32, 45, 10]⟩)) := qh fun W sa v hb hi => by
  have h := show_in ok_X (HT.o W hb) hi; rw [ex_S] at h; exact h
 have hq := fun w => selfF_eq w; have hg := fun w op a b => GuardAt.agg (P := prog) (T := 58) (fun c : Array Value => c) kf op a b slX slX w; clear ht HT
 go_enter func8, ntmps8
 have HV0 := qh (xE w.heap.size w)
 go_upto_region 2 with (first
  | (refine (PA.o _ HV0.o).mono ?_; rintro e w1 ⟨s1, rfl, hs1, hp1, hi1, hb1⟩; have HI1 : Hid (xX (fun _ => True) w1 s1) := qh (hi1.imp fun _ _ => trivial); have HB1 := qh (HV0.o.trans (hb1.mono HV0.o.size)); have HQ1 := qh hp1; have HE1 := qh hs1; have HC1 := qh hb1; clear hi1 hb1 hp1 hs1)
  | (refine zQ rfl 37 rf _ bJ ?_; intro wa Ea; have HEa := qh Ea; have HXa : Hid (Blk wa w1.heap.size 37 (zY (sv Sc.z))) := (by rw [Ea]; exact qh (Blk.new _ _ _)); clear Ea)
  | (refine zJ rfl 37 (.tmp 1) (.tmp 15) rf w1.heap.size (zY s1) rf rf _ _ HXa.o (by rw [zO]; exact uQ) (by rw [zO, zO]) HI1.o.one ?_; intro v1 Ev; have HN1 := qh (Bx.new uB HI1.o HQ1.o HB1.o HEa.o Ev).1; have HK1 := qh (HC1.o.trans ((Bx.new uB HI1.o HQ1.o HB1.o HEa.o Ev).2.mono HC1.o.size)); clear Ev))
 have HV1 := qh HN1.o.bel; clear HXa HEa HI1 HQ1 HB1 HC1 HK1 PA
 go_upto_region 3 with (first
  | (refine (PB.o _ HV1.o).mono ?_; rintro e w2 ⟨s2, rfl, hs2, hp2, hi2, hb2⟩; have HI2 : Hid (xX (fun _ => True) w2 s2) := qh (hi2.imp fun _ _ => trivial); have HB2 := qh (HV1.o.trans (hb2.mono HV1.o.size)); have HQ2 := qh hp2; have HE2 := qh hs2; have HC2 := qh hb2; clear hi2 hb2 hp2 hs2)
  | (refine zQ rfl 37 rf _ bJ ?_; intro wa Ea; have HEa := qh Ea; have HXa : Hid (Blk wa w2.heap.size 37 (zY (sv Sc.z))) := (by rw [Ea]; exact qh (Blk.new _ _ _)); clear Ea)
  | (refine zJ rfl 37 (.tmp 3) (.tmp 19) rf w2.heap.size (zY s2) rf rf _ _ HXa.o (by rw [zO]; exact uQ) (by rw [zO, zO]) HI2.o.one ?_; intro v2 Ev; have HN2 := qh (Bx.new uB HI2.o HQ2.o HB2.o HEa.o Ev).1; have HK2 := qh (HC2.o.trans ((Bx.new uB HI2.o HQ2.o HB2.o HEa.o Ev).2.mono HC2.o.size)); clear Ev))
 have HV2 := qh HN2.o.bel; have HN1 := qh (HN1.o.next uB HK2.o); clear HXa HEa HI2 HQ2 HB2 HC2 HK2 PB
 go_upto_region 4 with (first
  | (refine (PC.o _ HV2.o).mono ?_; rintro e w3 ⟨s3, rfl, hs3, hp3, hi3, hb3⟩; have HI3 : Hid (xX (fun _ => True) w3 s3) := qh (hi3.imp fun _ _ => trivial); have HB3 := qh (HV2.o.trans (hb3.mono HV2.o.size)); have HQ3 := qh hp3; have HE3 := qh hs3; have HC3 := qh hb3; clear hi3 hb3 hp3 hs3)
  | (refine zQ rfl 37 rf _ bJ ?_; intro wa Ea; have HEa := qh Ea; have HXa : Hid (Blk wa w3.heap.size 37 (zY (sv Sc.z))) := (by rw [Ea]; exact qh (Blk.new _ _ _)); clear Ea)
  | (refine zJ rfl 37 (.tmp 5) (.tmp 23) rf w3.heap.size (zY s3) rf rf _ _ HXa.o (by rw [zO]; exact uQ) (by rw [zO, zO]) HI3.o.one ?_; intro v3 Ev; have HN3 := qh (Bx.new uB HI3.o HQ3.o HB3.o HEa.o Ev).1; have HK3 := qh (HC3.o.trans ((Bx.new uB HI3.o HQ3.o HB3.o HEa.o Ev).2.mono HC3.o.size)); clear Ev))
 have HV3 := qh HN3.o.bel; have HN1 := qh (HN1.o.next uB HK3.o); have HN2 := qh (HN2.o.next uB HK3.o); clear HXa HEa HI3 HQ3 HB3 HC3 HK3 PC; have HE3 := HE3.o; clear HE3 HN3
 go_upto_region 5 with (first
  | (refine (PX.o _ HV3.o).mono ?_; rintro e w4 ⟨x4, sa4, va4, c4, n4, rfl, hi4, hb4, ho4, he4⟩; obtain ⟨rfl, rfl, rfl⟩ := ho4 _ rfl; have HI4 := qh hi4; have HB4 := qh (HV3.o.trans (hb4.mono HV3.o.size)); have HC4 := qh hb4; clear hi4 hb4 ho4 he4)
  | (refine zQ rfl 61 rf _ nQ ?_; intro wa Ea; have HEa := qh Ea; have HXa : Hid (Blk wa w4.heap.size 61 (scA scrZ (.slice none 0 0))) := (by rw [Ea]; exact qh (Blk.new _ _ _)); clear Ea)
  | (refine zJ rfl 61 (.tmp 7) (.tmp 27) rf w4.heap.size (scA scX va4) rf rf _ _ HXa.o HI4.o.iS HI4.o.zz HI4.o.one ?_; intro v4 Ev; have HN4 := qh (BxS.new uB HI4.o HB4.o HEa.o Ev).1; have HK4 := qh (HC4.o.trans ((BxS.new uB HI4.o HB4.o HEa.o Ev).2.mono HC4.o.size)); clear Ev))
 have HV4 := qh HN4.o.bel; have HN1 := qh (HN1.o.next uB HK4.o); have HN2 := qh (HN2.o.next uB HK4.o); clear HXa HEa HI4 HB4 HC4 HK4 PX; have HA4 : Hid (Aw w w1.heap.size w2.heap.size w4.heap.size s1 s2 sa4 va4 v4) := qh ⟨HN1.o, HN2.o, HN4.o⟩; clear HN1 HN2 HN4; have HW1 : Hid (s1.t = stA) := qh HE1.o; have HW2 : Hid (s2.t = stB) := qh HE2.o; obtain ⟨p1, k1, hvw1, -⟩ := HA4.o.a.inn.ws; have HVW : Hid (s1.vw = .slice p1 2 k1) := qh (by rw [hvw1, HW1.o]; rfl); obtain ⟨p2, k2, hvb2, -⟩ := HA4.o.b.inn.b; have HVB : Hid (s2.vb = .slice p2 4 k2) := qh (by rw [hvb2, HW2.o]; rfl); obtain ⟨p9, c9, hv9, -⟩ := HA4.o.x.inn.sl; have HL9 : sa4.length = 2 := by have := HA4.o.x.inn.len; simpa [scX] using this
 have HV9 : Hid (va4 = .slice p9 2 c9) := qh (by rw [hv9, HL9]); clear hvw1 hvb2 hv9 HL9
 have HC1 : Hid (∀ W, Aw w w1.heap.size w2.heap.size w4.heap.size s1 s2 sa4 va4 W -> W.cell? ⟨w1.heap.size, 1, none⟩ = some (.int .i64 10) /\ W.cell? ⟨w1.heap.size, 2, none⟩ = some (.int .i64 100) /\ W.cell? ⟨w1.heap.size, 31, none⟩ = some (.slice p1 2 k1)) := qh fun W h => by
  have h1 := (StAt.mk h.a.b h.a.p16).c1; have h2 := (StAt.mk h.a.b h.a.p16).c2; have h3 := (StAt.mk h.a.b h.a.p16).c31; rw [HW1.o] at h1 h2; rw [HVW.o] at h3; exact ⟨h1, h2, h3⟩
 have HC2 : Hid (∀ W, Aw w w1.heap.size w2.heap.size w4.heap.size s1 s2 sa4 va4 W -> W.cell? ⟨w2.heap.size, 0, none⟩ = some (.bool true) /\ W.cell? ⟨w2.heap.size, 34, none⟩ = some (.bool true) /\ W.cell? ⟨w2.heap.size, 35, none⟩ = some (.slice p2 4 k2)) := qh fun W h => by
  have h1 := (StAt.mk h.b.b h.b.p16).c0; have h2 := (StAt.mk h.b.b h.b.p16).c34; have h3 := (StAt.mk h.b.b h.b.p16).c35; rw [HW2.o] at h1 h2; rw [HVB.o] at h3; exact ⟨h1, h2, h3⟩
 have HC3 : Hid (∀ W, Aw w w1.heap.size w2.heap.size w4.heap.size s1 s2 sa4 va4 W -> W.cell? ⟨w4.heap.size, 1, none⟩ = some (.int .i64 5) /\ W.cell? ⟨w4.heap.size, 23, none⟩ = some (.slice p9 2 c9) /\ W.rangeAt w4.heap.size 3 slX.toList) := qh fun W h => by
  have h1 := (ScAt.mk h.x.b h.x.inn.z).c1; have h2 := (ScAt.mk h.x.b h.x.inn.z).c23; have h3 := (ScAt.mk h.x.b h.x.inn.z).sl; rw [HV9.o] at h2; exact ⟨h1, h2, h3⟩
 have HIF : Hid ((prog.info? 58).map (·.size) = some slX.toList.length) := qh kf; have HIS := qh HA4.o.x.inn.iS; have HBF := qh built_F; have HBG := qh built_G; have HBH := qh built_H; generalize slX = SX at *; generalize (uS [0, 0, 0, 0, 0, 0, 0, 0, 0, 0, 0, 0, 0, 0, 0, 1]).toArray = GX at *; go_wp2_with fail
 refine (PY.o _ HV4.o).mono ?_; rintro e w5 ⟨x5, sa5, va5, c5, n5, rfl, hi5, hb5, ho5, he5⟩; obtain ⟨rfl, rfl, rfl⟩ := he5 _ rfl; have HA5 := qh (HA4.o.next hb5); have HI5 := qh hi5
 have HK5 : Hid (∀ wa wb, wa = w5.alloc (.cells (scA scrZ (.slice none 0 0)) 61) -> wb = wa.setRow w5.heap.size (scA scrZ va5) -> zW w5 wb) := qh fun wa wb h1 h2 => by
  subst h1 h2; exact below_setRow (yD _ _) zn _
 clear hi5 hb5 ho5 he5 HA4 HV4 PY HE1 HE2; dsimp only; rename_i K hK; refine hK _ _ ?_; clear hK K
 try simp only [qA, qB, qC, qD, qE, qF, qG]
 iterate 12 go_step
 refine zQ rfl 61 rf _ nQ ?_; intro wa Ea; have HEa := qh Ea; have HXa : Hid (Blk wa w5.heap.size 61 (scA scrZ (.slice none 0 0))) := (by rw [Ea]; exact qh (Blk.new _ _ _)); clear Ea
 try simp only [qA, qB, qC, qD, qE, qF, qG]
 refine zJ rfl 61 (.tmp 10) (.tmp 32) rf w5.heap.size (scA scrZ va5) rf rf _ _ HXa.o HI5.o.iS HI5.o.zz HI5.o.one ?_; intro v5 Ev; have HA6 := qh (HA5.o.next (HK5.o _ _ HEa.o Ev)); clear Ev; obtain ⟨a1, a2, a31⟩ := HC1.o _ HA6.o
 try simp only [qA, qB, qC, qD, qE, qF, qG]
 iterate 53 go_step
 refine yI rf 37 (.tmp 1) rf w1.heap.size rf _ (zY s1) (0, 0) _ HA6.o.a.b underlying37 rfl (by rw [zO]; exact uQ) ?_
 try simp only [qA, qB, qC, qD, qE, qF, qG]
 go_wp2_with fail
 refine zT (PL.o _ _ HW1.o HA6.o.a.bel HA6.o.a.inn) fun w6 hb6 => ?_; have HA7 := qh (HA6.o.next hb6); clear hb6 a1 a2 a31; obtain ⟨b0, b34, b35⟩ := HC2.o _ HA7.o; obtain ⟨x1, x23, xr⟩ := HC3.o _ HA7.o; have HXR := qh xr; clear xr; dsimp only; rename_i K hK; refine hK _ _ ?_; clear hK K
 try simp only [qA, qB, qC, qD, qE, qF, qG]
 iterate 81 go_step
 refine xV 58 (.tmp 94) rf rf w4.heap.size 3 rf SX.toList _ HXR.o underlying58 rfl HIF.o ?_
 try simp only [qA, qB, qC, qD, qE, qF, qG]
 refine rP rf 56 #[(0, .const (.int .u8 10)), (1, .const (.int .u8 0)), (2, .const (.int .u8 0)), (3, .const (.int .u8 1))] rf [(0, .const (.int .u8 10)), (1, .const (.int .u8 0)), (2, .const (.int .u8 0)), (3, .const (.int .u8 1))] rfl _ HBF.o ?_
 try simp only [qA, qB, qC, qD, qE, qF, qG]
 refine rP rf 24 #[(15, .const (.int .u8 1))] rf [(15, .const (.int .u8 1))] rfl _ HBG.o ?_
 try simp only [qA, qB, qC, qD, qE, qF, qG]
 refine rP rf 58 #[(0, .tmp 96), (1, .tmp 97)] rf [(0, .tmp 96), (1, .tmp 97)] rfl _ HBH.o ?_
 try simp only [qA, qB, qC, qD, qE, qF, qG]
 iterate 22 go_step
 refine yI rf 61 (.tmp 7) rf w4.heap.size rf _ (scA scX va4) (0, 0) _ HA7.o.x.b underlying61 rfl HIS.o ?_
 try simp only [qA, qB, qC, qD, qE, qF, qG]
 go_wp2_with fail
 refine zT (PS.o _ _ _ HA7.o.x.bel HA7.o.x.inn) fun w7 hb7 => ?_; have HA8 := qh (HA7.o.next hb7); clear hb7
 go_wp2
 go_ret
 exact ⟨rfl, HA8.o.a.bel⟩
end Go.Proofs.YtdbgeobolongmaaGreatDoor
namespace Go.Proofs.YtdbgeobolongmaaGreatDoor
open Go.RowKit Go.Shelf Go.Proofs Go.OctetPlain Go.PrefixPlain Go.ColonPlain
structure Got (o : Except (Int × Nat) Sc.Scr) (x : Sc.Scr) (c : Int) (n : Nat) : Prop where
 ok : ∀ y, o = .ok y -> x = y /\ c = 0 /\ n = 0
 er : ∀ k, o = .error k -> x = scrZ /\ c = k.1 /\ n = k.2
theorem Got.same {o : Except (Int × Nat) Sc.Scr} {x y : Sc.Scr} {c d : Int} {n m : Nat} (h : Got o x c n) (g : Got o y d m) : x = y /\ c = d /\ n = m := by
 cases o with
 | ok z => obtain ⟨h1, h2, h3⟩ := h.ok z rfl; obtain ⟨g1, g2, g3⟩ := g.ok z rfl; exact ⟨h1.trans g1.symm, h2.trans g2.symm, h3.trans g3.symm⟩
 | error k => obtain ⟨h1, h2, h3⟩ := h.er k rfl; obtain ⟨g1, g2, g3⟩ := g.er k rfl; exact ⟨h1.trans g1.symm, h2.trans g2.symm, h3.trans g3.symm⟩
def SzT (t : Sc.Stp) : Prop := t.hop.labels.length <= 1073741824 /\ t.hop.repair.length <= 1073741824 /\ t.ways.length <= 1073741824
structure CmpOK (x : Sc.Scr) : Prop where
 z : ∀ t ∈ x.steps, SzT t
 n : x.steps.length <= 1000
theorem Got.cmp {o : Except (Int × Nat) Sc.Scr} {x : Sc.Scr} {c : Int} {n : Nat} (h : Got o x c n) (g : ∀ y, o = .ok y -> CmpOK y) : CmpOK x := by
 cases o with
 | ok z => rw [(h.ok z rfl).1]; exact g z rfl
 | error k => rw [(h.er k rfl).1]; exact ⟨(fun t ht => by cases ht), zd⟩
theorem parsed_cmp {l : List UInt8} {x : Sc.Scr} (h : Sc.parseX l = .ok x) (hl : l.length <= 4001) : CmpOK x := ⟨fun t ht => parsed_fit h hl ht, (Sc.parse_inv h).1.n⟩
theorem same_in {x : Sc.Scr} (O : CmpOK x) {sa sb : List StV} {va vb : Value} {w : World} (A : ScIn vG w x sa va) (B : ScIn vG w x sb vb) :
  zCB 18 #[.agg (scA x va), .agg (scA x vb)] w (.bool true) := by
 have h := r32_Same x x sa sb va vb w A B (fun s hs => O.z _ (A.mem hs)) (fun s hs => O.z _ (B.mem hs)) (by have := A.len; have := O.n; omega) (by have := B.len; have := O.n; omega); rw [zV rfl] at h; exact h
theorem body_le {k : Nat} : ∀ {ws : List Hp.Wd}, (∀ w ∈ ws, w.length <= k) -> (Sc.body ws).length <= ws.length * (k + 1)
 | [], _ => by simp [Sc.body]
 |w :: ws, h => by
  have h1 := h w yH; have h2 := body_le (ws := ws) fun v hv => h v (yP _ hv); rw [Sc.body, zG, zI, zI, Nat.succ_mul]; omega
theorem lineR_small {t : Sc.Stp} (h : Sml t) : (Sc.lineR t).length <= 4000 := by
 rw [← zAb]; unfold tH
 split
 ·exact sU h
 ·exact yQ _
theorem rooms_leI {x : Sc.Scr} (h1 : I64 x.r1) (h2 : I64 x.r2) (h3 : I64 x.r3) : (Sc.roomsL x).length <= 4000 := by
 have l1 := uW h1; have l2 := uW h2; have l3 := uW h3; have l0 : Sc.wRooms.length = 5 := rfl; simp only [Sc.roomsL, Hp.join, zG, zI]; omega
def zCa (l : List Sc.Stp) : Bool := l.all tZ && decide (l.length <= 40)
theorem ShOK.small {x : Sc.Scr} (z : Sc.Sized x) (h1 : I64 x.r1) (h2 : I64 x.r2) (h3 : I64 x.r3) (nb : ∀ t ∈ x.steps, NB t) (p16 : ∀ t ∈ x.steps, t.pf.addr.length = 16) (hs : zCa x.steps = true) : ShOK x /\ CmpOK x := by
 unfold zCa at hs; rw [xO, jE] at hs; have hn : x.steps.length <= 40 := kV hs.2; have sml : ∀ t ∈ x.steps, Sml t := fun t ht => Sml.of (nb t ht) (hs.1 t ht) (p16 t ht); refine ⟨⟨h1, h2, h3, fun t ht => ⟨(sml t ht).sb, yK (sU (sml t ht)) zd, yK (zAg (sml t ht)) zd⟩, om, ?_⟩, fun t ht => ?_, om⟩
 ·have hb := body_le (k := 4000) (ws := Sc.linesOf x) (fun w hw => by
   rcases yR.1 hw with rfl | hw
   ·exact rooms_leI h1 h2 h3
   ·rcases yR.1 hw with rfl | hw
    ·exact yK (Sc.self_len z) zd
    ·obtain ⟨t, ht, rfl⟩ := vB.1 hw
     exact lineR_small (sml t ht))
  have hl : (Sc.linesOf x).length <= 42 := by unfold Sc.linesOf; simp only [zI, yX]; omega
  have : (Sc.linesOf x).length * 4001 <= 42 * 4001 := Nat.mul_le_mul_right _ hl; omega
 ·have h := sml t ht
  exact ⟨yK h.h1 zd, yK h.h2 zd, yK h.ws zd⟩
theorem ShOK.parsed {l : List UInt8} {x : Sc.Scr} (h : Sc.parseX l = .ok x) (hl : l.length <= 4001) : ShOK x := by
 obtain ⟨i, hw⟩ := Sc.parse_inv h; refine ⟨zFo i.b1, zFo i.b2, zFo i.b3, fun t ht => ?_, i.n, ?_⟩
 ·obtain ⟨s, h1, h2⟩ := zGb h hl ht
  exact ⟨one_SB h1 om, by rw [one_textA h1]; omega, by rw [one_textD h1]; omega⟩
 ·have a := Sc.rooms_len i
  have b := Sc.self_len i.z; unfold Sc.wt at hw; unfold Sc.linesOf; simp only [Sc.body, zG, zI]; omega
structure Pr2 (w : World) (Xa Xb : Nat) (x : Sc.Scr) (sa sb : List StV) (va vb : Value) (W : World) : Prop where
 a : BxS 61 xX w Xa x sa va W
 b : BxS 69 vG w Xb x sb vb W
theorem Pr2.next {w : World} {Xa Xb : Nat} {x : Sc.Scr} {sa sb : List StV} {va vb : Value} {W W' : World} (h : Pr2 w Xa Xb x sa sb va vb W) (hb : zW W W') : Pr2 w Xa Xb x sa sb va vb W' := ⟨h.a.next uB hb, h.b.next goodD hb⟩
structure Pr1 (w : World) (Xa Xb : Nat) (x : Sc.Scr) (sa sb : List StV) (va vb : Value) (W : World) : Prop where
 a : BxS 61 xX w Xa x sa va W
 b : BxS 61 xX w Xb x sb vb W
theorem Pr1.next {w : World} {Xa Xb : Nat} {x : Sc.Scr} {sa sb : List StV} {va vb : Value} {W W' : World} (h : Pr1 w Xa Xb x sa sb va vb W) (hb : zW W W') : Pr1 w Xa Xb x sa sb va vb W' := ⟨h.a.next uB hb, h.b.next uB hb⟩
end Go.Proofs.YtdbgeobolongmaaGreatDoor
