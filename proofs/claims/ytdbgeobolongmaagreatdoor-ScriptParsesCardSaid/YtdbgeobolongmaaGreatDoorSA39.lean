/- Part of the proof: ScriptLines, ScriptParses, ScriptShows. -/
import Derived.Test.YtdbgeobolongmaaGreatDoorSA35
set_option linter.unusedVariables false
set_option linter.unusedSimpArgs false
set_option maxRecDepth 100000
set_option maxHeartbeats 4000000
namespace Go.Proofs.YtdbgeobolongmaaGreatDoor
open Go.RowKit Go.Shelf Go.Proofs Go.OctetPlain Go.PrefixPlain Go.Proofs.Tryz
theorem elemSt : zAo prog 59 37 36 248 := .mk underlying59 (z := .agg (zY (sv Sc.z))) kf om om (zO _)
theorem step_cells {s : StV} (h : (zY s).all (·.oneCell') = true) : ∀ u ∈ uC s, u.oneCell' = true := fun u hu => by
 have := Array.all_eq_true'.1 h u (by unfold zY; simpa using hu); exact this
def RetTake (T E : TypeId) (IN : (Nat -> Prop) -> World -> StV -> Prop) (Y : Nat -> Prop) (W : World) (X : Nat) (o : Option Sc.Scr) (e : Ending) (w' : World) : Prop :=
 e = .returned (.bool o.isSome) /\ W.grownBy w' (some X) /\ ∀ y, o = some y -> ∃ sts v, ScS T E IN Y W X y sts v w'
theorem ScS.app {T E : TypeId} {IN : (Nat -> Prop) -> World -> StV -> Prop} {Y : Nat -> Prop} (G : Good IN) {W wr w4 : World} {X : Nat} {x : Sc.Scr} {sts : List StV} {v v4 : Value} (h : ScS T E IN Y W X x sts v wr) {s : StV} (hs : IN (fun b => Y b /\ v.ownBlock ≠ some b) wr s) (hp : s.t.pf.addr.length = 16)
  (hown : w4.ownsRow W.heap.size E 36 v4 (sts.length + 1) (flat uC sts ++ uC s)) (hg : wr.grownBy w4 v.ownBlock) (hob : v4.ownBlock = v.ownBlock ∨ v4.ownBlock = some wr.heap.size) :
  ScS T E IN Y W X { x with steps := x.steps ++ [s.t] } (sts ++ [s]) v4 (w4.setCell ⟨X, 23, none⟩ v4) := by
 have hne := aS h.own h.XW
 have key : ∀ q : StV, IN (fun b => Y b /\ v.ownBlock ≠ some b) wr q -> IN (fun b => Y b /\ v4.ownBlock ≠ some b) (w4.setCell ⟨X, 23, none⟩ v4) q := fun q hq => by
  have h1 := G.grown (G.bd hq) hg (fun b hb => hb.1.2)
  have h2 := G.imp h1 (r := fun b => Y b /\ v4.ownBlock ≠ some b) (fun b hb => ⟨hb.1.1, fun e => by
   rcases hob with h9 | h9
   ·exact hb.1.2 (by rw [← h9]; exact e)
   ·rw [h9] at e; cases e; exact tC _ hb.2⟩)
  exact G.grown h2 (vH w4 X 23 v4) (fun b hb e => by cases e; exact h.YX hb.1)
 refine ⟨?_, ?_, ?_, fun q hq => ?_, fun q hq => ?_, ?_, h.XW, h.YX⟩
 ·have h1 := (h.at_.grown hg hne).setV v4
  exact ⟨h1.b, h1.z.four, h1.z.six⟩
 ·rw [vK, zG]
  have : flat uC [s] = uC s := by simp [flat]
  rw [this]; exact mO hown (vH _ _ _ _) (fun k e => by cases e; exact h.XW)
 ·simp [h.st]
 ·rcases xR.1 hq with hq | hq
  ·exact key q (h.inn q hq)
  ·obtain rfl : q = s := by simpa using hq
   exact key q hs
 ·rcases xR.1 hq with hq | hq
  ·exact h.p16 q hq
  ·obtain rfl : q = s := by simpa using hq
   exact hp
 ·have hb : W.grownBy w4 (some X) := ⟨hg.os.trans h.gr.os, hg.tape.trans h.gr.tape, hg.output.trans h.gr.output, yK h.gr.size hg.size, fun k hk hn => by
   rw [hg.block k (xC hk h.gr.size) (fun e => by have := nC h.own e.symm; omega)]; exact h.gr.block k hk hn⟩
  exact uK hb (vH _ _ _ _)
theorem infoStZ : ((prog.info? 37).bind (·.zero)).map (·.cells.size) = some 36 := kf
theorem scr_take (Y : Nat -> Prop) (W : World) (X : Nat) (x : Sc.Scr) (sts : List StV) (v : Value) (w : World) (l : List UInt8) (hl : l.length <= 65536) (hS : ScS 61 37 xX Y W X x sts v w) (hX : SX X W) (hn : sts.length <= 1000) (hY : ∀ b, W.heap.size <= b -> Y b) :
  Calls prog 38 #[.pointer (some ⟨X, 0, none⟩), .string (str l)] w (RetTake 61 37 xX Y W X (Sc.takeR x l)) := by
 have HST : Hid (∀ w', W.grownBy w' (some X) -> ST w') := qh fun w' h => (hX.grown h).st; have HW := qh fun W => zEa l om W; have hF := aU.spl hl; have HRM := qh fun (W : World) (ht : ST W) v hv => scr_rooms (Hp.spl l) hF.1 hF.2.1 v W ht hv; have HSF := qh fun (W : World) (ht : ST W) v hv => scr_self (Hp.spl l) hF.1 hF.2.1 v W ht hv; have HON := qh fun W ht => oG l hl W ht; have HO : Hid (Sc.takeR x l = match Sc.roomsR (Hp.spl l) with | some r => some { x with r1 := r.1, r2 := r.2.1, r3 := r.2.2 } | none => match Sc.selfR (Hp.spl l) with | some a => some { x with four := a.1, six := a.2 } | none => match Sc.oneR l with | some t => if x.steps.length = 1000 then none else some { x with steps := x.steps ++ [t] } | none => none) := qh rfl; have HXL : Hid (x.steps.length = sts.length) := qh (by rw [← hS.st, yX]); have hXw := xC hS.XW hS.gr.size; have HS := qh hS; clear hS hX hF; generalize Sc.takeR x l = o at *; generalize Sc.roomsR (Hp.spl l) = rr at *; generalize Sc.selfR (Hp.spl l) = ss at *; generalize Sc.oneR l = oo at *
 go_enter func38, ntmps38
 go_wp2_with fail
 refine (HW.o _).mono ?_; rintro e w1 ⟨v1, rfl, ho1, hb1⟩; have HS1 := qh (HS.o.next uB hb1); have hz1 := hb1.size; obtain ⟨p1, k1, rfl⟩ := uG ho1; have HV1 := qh (SlR.of_owns vU ho1); clear hb1 ho1; go_wp2_with fail
 refine zT (HRM.o _ (HST.o _ HS1.o.gr) _ HV1.o) fun w2 hb2 => ?_; have HS2 := qh (HS1.o.next uB hb2); have HV2 := qh (HV1.o.below hb2 zn); have hz2 := hb2.size; clear hb2
 have HK2 : Hid (∀ wa wb r, wa = w2.alloc (.cells (rmA (0, 0, 0)) 55) -> wb = wa.setRow w2.heap.size (rmA r) -> Blk wb w2.heap.size 55 (rmA r) /\ zW w2 wb) := qh fun wa wb r h1 h2 => by
  subst h1 h2; exact ⟨(Blk.new _ _ _).setRow _, below_setRow (yD _ _) zn _⟩
 cases rr with
 |some r =>
  have HOK : Hid (o = some { x with r1 := r.1, r2 := r.2.1, r3 := r.2.2 }) := qh HO.o; clear HO HSF HON
  go_wp2_with (first
   | (refine zQ rfl 55 rf _ zeroRm ?_; intro wa ha; have HEA := qh ha; clear ha)
   | (refine zJ rfl _ (.tmp 6) (.tmp 17) rfl w2.heap.size (rmA r) rf rf 55 (rmA (0, 0, 0)) (by rw [HEA.o]; exact Blk.new _ _ _) aY rfl (fJ _) ?_; intro wb hb; have HB3 := qh (HK2.o wa wb r HEA.o hb); have HS3 := qh (HS2.o.next uB HB3.o.2); clear hb)
   | (refine yI rf 55 (.tmp 6) rf w2.heap.size rf _ (rmA r) (0, 0) _ HB3.o.1 underlying55 rfl aY ?_)
   | (refine jG (fun W' => Hid (ScS 61 37 xX Y W X { x with r1 := r.1, r2 := r.2.1, r3 := r.2.2 } sts v W')) rfl _ _ _ rfl X 0 (rmA r) rf rf (HS3.o.at_.th (by show 0 + 3 <= 24; decide)) aY (fJ _) (qh (HS3.o.set uB (fI _ _ _ _) (HS3.o.at_.setRm r) rfl)) ?_; intro w4 H4))
  go_ret
  refine ⟨by rw [HOK.o]; rfl, H4.o.gr, fun y hy => ⟨sts, v, ?_⟩⟩; rw [HOK.o] at hy
  cases hy; exact H4.o
 |none =>
  go_wp2_with (first
   | (refine zQ rfl 55 rf _ zeroRm ?_; intro wa ha; have HEA := qh ha; clear ha)
   | (refine zJ rfl _ (.tmp 6) (.tmp 17) rfl w2.heap.size (rmA (0, 0, 0)) rf rf 55 (rmA (0, 0, 0)) (by rw [HEA.o]; exact Blk.new _ _ _) aY rfl (fJ _) ?_; intro wb hb; have HB3 := qh (HK2.o wa wb (0, 0, 0) HEA.o hb); have HS3 := qh (HS2.o.next uB HB3.o.2); have HV3 := qh (HV2.o.below HB3.o.2 zn); clear hb))
  refine (HSF.o _ (HST.o _ HS3.o.gr) _ HV3.o).mono ?_; rintro e w4 ⟨a4, b4, ha4, hb4', rfl, hval, hb4⟩; have HS4 := qh (HS3.o.next uB hb4); have hz4 := hb4.size; have HA4 := qh ha4; have HA16 := qh hb4'; have HVL := qh hval; clear hb4 ha4 hb4' hval HEA; have HI4 : Hid ((prog.info? 58).map (·.size) = some (slA a4 b4).size) := qh (by rw [bV HA4.o HA16.o]; exact infoS); have HZ4 : Hid ((slA z4 z16).size = (slA a4 b4).size) := qh (by rw [bV HA4.o HA16.o]; rfl)
  have HK4 : Hid (∀ wa wb, wa = w4.alloc (.cells (slA z4 z16) 58) -> wb = wa.setRow w4.heap.size (slA a4 b4) -> Blk wb w4.heap.size 58 (slA a4 b4) /\ zW w4 wb) := qh fun wa wb h1 h2 => by
   subst h1 h2; exact ⟨(Blk.new _ _ _).setRow _, below_setRow (yD _ _) zn _⟩
  cases ss with
  |some r =>
   have HOK : Hid (o = some { x with four := a4, six := b4 }) := qh (by rw [HO.o, HVL.o r rfl]); clear HO HVL HON
   go_wp2_with (first
    | (refine zQ rfl 58 rf _ zeroS ?_; intro wa ha; have HEA := qh ha; clear ha)
    | (refine zJ rfl _ (.tmp 8) (.tmp 27) rfl w4.heap.size (slA a4 b4) rf rf 58 (slA z4 z16) (by rw [HEA.o]; exact Blk.new _ _ _) HI4.o HZ4.o (nG _ _) ?_; intro wb hb; have HB5 := qh (HK4.o wa wb HEA.o hb); have HS5 := qh (HS4.o.next uB HB5.o.2); clear hb)
    | (refine yI rf 58 (.tmp 8) rf w4.heap.size rf _ (slA a4 b4) (0, 0) _ HB5.o.1 underlying58 rfl HI4.o ?_)
    | (refine jG (fun W' => Hid (ScS 61 37 xX Y W X { x with four := a4, six := b4 } sts v W')) rfl _ _ _ rfl X 3 (slA a4 b4) rf rf (HS5.o.at_.th (by rw [bV HA4.o HA16.o]; decide)) HI4.o (nG _ _) (qh (HS5.o.set uB (fI _ _ _ _) (HS5.o.at_.setSl HA4.o HA16.o) rfl)) ?_; intro w6 H6))
   go_ret
   refine ⟨by rw [HOK.o]; rfl, H6.o.gr, fun y hy => ⟨sts, v, ?_⟩⟩; rw [HOK.o] at hy
   cases hy; exact H6.o
  |none =>
   clear HVL
   go_wp2_with (first
    | (refine zQ rfl 58 rf _ zeroS ?_; intro wa ha; have HEA := qh ha; clear ha)
    | (refine zJ rfl _ (.tmp 8) (.tmp 27) rfl w4.heap.size (slA a4 b4) rf rf 58 (slA z4 z16) (by rw [HEA.o]; exact Blk.new _ _ _) HI4.o HZ4.o (nG _ _) ?_; intro wb hb; have HB5 := qh (HK4.o wa wb HEA.o hb); have HS5 := qh (HS4.o.next uB HB5.o.2); clear hb))
   refine (HON.o _ (HST.o _ HS5.o.gr)).mono ?_; rintro e w6 ⟨s', rfl, hst, hp16, hi', hb6⟩; have HS6 := qh (HS5.o.next uB hb6); have hz6 := hb6.size; have HSt := qh hst; have HP16 := qh hp16; have HI6 : Hid (xX (fun b => Y b /\ v.ownBlock ≠ some b) w6 s') := qh (hi'.imp fun b hb => ⟨hY b (yK HS5.o.gr.size hb), fun e => by have := nC HS5.o.own e; omega⟩); clear hst hp16 hi' hb6
   have HK6 : Hid (∀ wa wb, wa = w6.alloc (.cells (zY (sv Sc.z)) 37) -> wb = wa.setRow w6.heap.size (zY s') -> Blk wb w6.heap.size 37 (zY s') /\ zW w6 wb /\ wb.heap.size = w6.heap.size + 1) := qh fun wa wb h1 h2 => by
    subst h1 h2; exact ⟨(Blk.new _ _ _).setRow _, below_setRow (yD _ _) zn _, by rw [World.setRow_alloc_new]; simp⟩
   cases oo with
   |none =>
    have HON2 : Hid (o = none) := qh HO.o; clear HO
    go_wp2_with (first
     | (refine zQ rfl 37 rf _ bJ ?_; intro wa ha; have HEA2 := qh ha; clear ha)
     | (refine zJ rfl 37 (.tmp 10) (.tmp 37) rf w6.heap.size (zY s') rf rf 37 (zY (sv Sc.z)) (by rw [HEA2.o]; exact Blk.new _ _ _) (by rw [zO]; exact uQ) (by rw [zO, zO]) HI6.o.one ?_; intro wb hb; have HB7 := qh (HK6.o wa wb HEA2.o hb); have HS7 := qh (HS6.o.next uB HB7.o.2.1); clear hb))
    go_ret
    exact ⟨by rw [HON2.o]; rfl, HS7.o.gr, fun y hy => by rw [HON2.o] at hy; cases hy⟩
   |some t =>
    have HT : Hid (s'.t = t) := qh HSt.o; have HO2 : Hid (o = if sts.length = 1000 then none else some { x with steps := x.steps ++ [t] }) := qh (by rw [HO.o, HXL.o]); clear HO HXL; obtain ⟨pv, kv, hvf⟩ := uG HS6.o.own
    by_cases hfull : sts.length = 1000
    ·have HON2 : Hid (o = none) := qh (by rw [HO2.o, zN hfull])
     have hd : ((sts.length : Int) == 1000) = true := by rw [hfull]; rfl
     clear HO2 hfull
     go_wp2_with (first
      | (refine zQ rfl 37 rf _ bJ ?_; intro wa ha; have HEA2 := qh ha; clear ha)
      | (refine zJ rfl 37 (.tmp 10) (.tmp 37) rf w6.heap.size (zY s') rf rf 37 (zY (sv Sc.z)) (by rw [HEA2.o]; exact Blk.new _ _ _) (by rw [zO]; exact uQ) (by rw [zO, zO]) HI6.o.one ?_; intro wb hb; have HB7 := qh (HK6.o wa wb HEA2.o hb); have HS7 := qh (HS6.o.next uB HB7.o.2.1); have c23 := HS7.o.at_.c23; rw [hvf] at c23; clear hb))
     go_ret
     exact ⟨by rw [HON2.o]; rfl, HS7.o.gr, fun y hy => by rw [HON2.o] at hy; cases hy⟩
    ·have HOK : Hid (o = some { x with steps := x.steps ++ [t] }) := qh (by rw [HO2.o, zH hfull])
     have hd : ((sts.length : Int) == 1000) = false := by simp only [yF, qR]; omega
     clear HO2 hfull
     go_upto_region 13 with (first
      | (refine zQ rfl 37 rf _ bJ ?_; intro wa ha; have HEA2 := qh ha; clear ha)
      | (refine zJ rfl 37 (.tmp 10) (.tmp 37) rf w6.heap.size (zY s') rf rf 37 (zY (sv Sc.z)) (by rw [HEA2.o]; exact Blk.new _ _ _) (by rw [zO]; exact uQ) (by rw [zO, zO]) HI6.o.one ?_; intro wb hb; have HB7 := qh (HK6.o wa wb HEA2.o hb); have HS7 := qh (HS6.o.next uB HB7.o.2.1); have c23 := HS7.o.at_.c23; rw [hvf] at c23; clear hb))
     have HS8 := qh (HS7.o.next uB (xE wb.heap.size wb).drew); have HI8 := qh (uB.below (uB.below HI6.o HB7.o.2.1) (xE wb.heap.size wb).drew); have hXb := HS8.o.at_.lt; have hgz : X ≠ w6.heap.size := by have := HS6.o.at_.lt; omega
     have HBK := qh (HB7.o.1.below (xE wb.heap.size wb).drew HB7.o.1.lt); have HNB : Hid (v.ownBlock ≠ some w6.heap.size) := qh fun e => by have := nC HS6.o.own e; omega
     have HP8 : Hid (s'.t.pf.addr.length = 16) := qh HP16.o; clear c23 HSt HS7 HS6 HS5 HS4 HS3 HS2 HS1 HS HV1 HV2 HV3 HB3 HB5 HI6; subst hvf; refine yB (S := fun W' => Blk W' w6.heap.size 37 (zY s')) kf HBK.o (fun hHeld => ?_); refine kq 0 ?_; refine kq 1 ?_; refine kq 2 ?_; refine kq 3 ?_; refine kY 5 rfl (zR rfl (w6.heap.size) rfl _ (zY s') _ (fun w h => h) underlying37 rfl (by rw [zO]; exact uQ)) ?_; have c23 := HS8.o.at_.c23; refine mQ (i := 4) (j := 6) rfl rfl kf rf rf (fun K hK => ?_) (fun K hK => ?_)
     ·go_simp
      refine hK.out _ _ hHeld (fun hHeld => ?_); clear hK K
      try simp only [qA, qB, qC, qD, qE, qF, qG]
      refine zS 6 fun K hK => ?_; refine mG 59 37 (.tmp 54) rfl (zY s') rfl 36 (zO s') zd zd underlying59 uQ infoStZ ?_; have HZ9 := qh (yD wb.drew (.cells (zY s') 37)); refine zK hK (hHeld.alloc _) fun hHeld => ?_; clear hK K; have HS9 := qh (HS8.o.next uB HZ9.o); have HI9 := qh (uB.below HI8.o HZ9.o); have hz9 : wb.heap.size <= (wb.drew.alloc (.cells (zY s') 37)).heap.size := zi; refine zS 7 fun K hK => ?_; refine tV elemSt _ _ rfl W.heap.size (.slice pv sts.length kv) sts.length _ rfl HS9.o.own ⟨wb.drew.heap.size, 0, none⟩ 1 1 (uC s') rfl (kX s') (pI wb.drew (uC s') _ _ rfl) (step_cells HI9.o.one) om HS9.o.gr.size ?_; intro v4 w4 hown4 hgr4 hob4; refine zK hK (hHeld.grownO hgr4 HNB.o) fun hHeld => ?_; clear hK K; obtain ⟨p4, k4, rfl⟩ := uG hown4; have HN := qh (HS9.o.app uB HI9.o HP8.o hown4 hgr4 hob4); have c4 := (HS9.o.at_.grown hgr4 (aS HS9.o.own HS9.o.XW)).c23; have f4 := (HS9.o.at_.grown hgr4 (aS HS9.o.own HS9.o.XW)).fz 23; clear hown4 hgr4 hob4; refine kq 8 ?_; refine kq 9 ?_; refine zS 10 fun K hK => ?_; go_simp; refine zK hK (Blk.other hHeld ⟨X, 23, none⟩ (.slice p4 (sts.length + 1) k4) hgz.symm) fun hHeld => ?_; clear hK K; refine zD ?_
      go_wp2
      go_ret
      refine ⟨by rw [HOK.o]; rfl, HN.o.gr, fun y hy => ⟨sts ++ [s'], .slice p4 (sts.length + 1) k4, ?_⟩⟩; rw [HOK.o] at hy
      cases hy; rw [← HT.o]; exact HN.o
     ·refine mG 59 37 (.tmp 54) rfl (zY s') rfl 36 (zO s') zd zd underlying59 uQ infoStZ ?_
      have HZ9 := qh (yD wb.drew (.cells (zY s') 37)); refine zK hK (hHeld.alloc _) fun hHeld => ?_; clear hK K; have HS9 := qh (HS8.o.next uB HZ9.o); have c24 : (wb.alloc (.cells (zY s') 37)).drew.cell? ⟨X, 23, none⟩ = some (.slice pv sts.length kv) := HS9.o.at_.c23; refine zS 4 fun K hK => ?_; go_simp; refine hK.out _ _ hHeld (fun hHeld => ?_); clear hK K
      try simp only [qA, qB, qC, qD, qE, qF, qG]
      have HI9 := qh (uB.below HI8.o HZ9.o); have hz9 : wb.heap.size <= (wb.drew.alloc (.cells (zY s') 37)).heap.size := zi; refine zS 7 fun K hK => ?_; refine tV elemSt _ _ rfl W.heap.size (.slice pv sts.length kv) sts.length _ rfl HS9.o.own ⟨wb.drew.heap.size, 0, none⟩ 1 1 (uC s') rfl (kX s') (pI wb.drew (uC s') _ _ rfl) (step_cells HI9.o.one) om HS9.o.gr.size ?_; intro v4 w4 hown4 hgr4 hob4; refine zK hK (hHeld.grownO hgr4 HNB.o) fun hHeld => ?_; clear hK K; obtain ⟨p4, k4, rfl⟩ := uG hown4; have HN := qh (HS9.o.app uB HI9.o HP8.o hown4 hgr4 hob4); have c4 := (HS9.o.at_.grown hgr4 (aS HS9.o.own HS9.o.XW)).c23; have f4 := (HS9.o.at_.grown hgr4 (aS HS9.o.own HS9.o.XW)).fz 23; clear hown4 hgr4 hob4; refine kq 8 ?_; refine kq 9 ?_; refine zS 10 fun K hK => ?_; go_simp; refine zK hK (Blk.other hHeld ⟨X, 23, none⟩ (.slice p4 (sts.length + 1) k4) hgz.symm) fun hHeld => ?_; clear hK K; refine zD ?_
      go_wp2
      go_ret
      refine ⟨by rw [HOK.o]; rfl, HN.o.gr, fun y hy => ⟨sts ++ [s'], .slice p4 (sts.length + 1) k4, ?_⟩⟩; rw [HOK.o] at hy
      cases hy; rw [← HT.o]; exact HN.o
open Go.ColonPlain
theorem split10 (l : List UInt8) (hl : l.length <= 1000000) (m : Int) (w : World) (hm : w.cell? ⟨1, 0, none⟩ = some (.int .i64 m)) :
  Calls prog 37 #[.string (str l), .string ⟨#[10]⟩] w fun e w' => e = .returned (.slice (some ⟨w.heap.size, 0, none⟩) (yY 10 l).length (yY 10 l).length) /\ w' = w.alloc (.cells (flat encS (yY 10 l)).toArray 9) := by
 have hcon := Any.strings_Split { Tryz.split with } Tryz.split.i9 (str l) ⟨#[10]⟩ m w (by rw [zZ]; omega) hm zd; change Calls prog 37 _ _ _ at hcon; rw [flat_encS, ← zCh, ← pieces_eq]; exact hcon
theorem nQ (w : World) : (zeroValue 61).run prog w = .ok (.agg (scA scrZ (.slice none 0 0))) w := kf
theorem infoSc : (prog.info? 61).map (·.size) = some 24 := kf
theorem fB {x : Sc.Scr} {v : Value} (h : v.oneCell' = true) : (scA x v).all (·.oneCell') = true := by
 refine sV fun u hu => ?_; simp only [scL, rmA, slA, xR, vB, yR, jV, mW] at hu
 rcases hu with hu | hu | rfl
 ·rcases hu with rfl | rfl | rfl <;> rfl
 ·obtain ⟨c, -, rfl⟩ := hu; rfl
 ·exact h
theorem take_n {x y : Sc.Scr} {s : List UInt8} (h : Sc.takeR x s = some y) (hn : x.steps.length <= 1000) : y.steps.length <= 1000 := by
 unfold Sc.takeR at h
 split at h
 ·cases h; exact hn
 ·split at h
  ·cases h; exact hn
  ·split at h
   ·split at h
    ·cases h
    ·cases h; simp; omega
   ·cases h
structure PrS (WB : World) (X : Nat) (L : List Hp.Wd) (Z : Except Nat Sc.Scr) (k : Nat) (x : Sc.Scr) (sts : List StV) (v : Value) (wr : World) : Prop where
 S : ScS 61 37 xX (fun b => WB.heap.size <= b) WB X x sts v wr
 eq : Z = Sc.linesR x k (L.drop k)
 n : sts.length <= 1000
theorem pJ (l : List UInt8) (hl : l.length <= 1000000) (w : World) (ht : ST w) :
  Calls prog 16 #[.string (str l)] w (RetScr xX (Sc.parseX l) w) := by
 have hsz : (str l).size = l.length := zZ l; have HZZ : Hid ((prog.info? 61).map (·.size) = some (scA scrZ (.slice none 0 0)).size) := qh (by rw [qM lI]; exact infoSc)
 by_cases hbig : 65536 < l.length
 ·have HO : Hid (Sc.parseX l = .error (2, 0)) := qh (by unfold Sc.parseX; rw [zN hbig])
  have hd : decide ((65536 : Int) < (l.length : Int)) = true := zo
  go_enter func16, ntmps16
  go_wp2_with (first
   | (refine zQ rfl 61 rf _ nQ ?_; intro w1 hw1; have HR1 : Hid (Blk w1 w.heap.size 61 (scA scrZ (.slice none 0 0))) := (by rw [hw1]; exact qh (Blk.new _ _ _)); have HB1 : Hid (zW w w1) := (by rw [hw1]; exact qh (yD w _)); clear hw1)
   | (refine zJ rfl 61 (.tmp 2) (.tmp 11) rf w.heap.size (scA scrZ (.slice none 0 0)) rf rf _ _ HR1.o HZZ.o rfl (fB rfl) ?_; intro w2 hw2; have HR2 : Hid (Blk w2 w.heap.size 61 (scA scrZ (.slice none 0 0))) := (by rw [hw2]; exact qh (HR1.o.setRow _)); have HB2 : Hid (zW w w2) := (by rw [hw2]; exact qh (below_setRow HB1.o zn _)); clear hw2))
  exact zC (jK rfl _ _ _ _ _ _ _ rfl HR2.o underlying61 rfl HZZ.o) rfl ⟨scrZ, [], _, 2, 0, rfl, ScIn.nil lI rfl, HB2.o, (fun y hy => by rw [HO.o] at hy; cases hy), (fun k hk => by rw [HO.o] at hk; cases hk; exact ⟨rfl, rfl, rfl⟩)⟩
 ·have HO : Hid (Sc.parseX l = match Sc.linesR Sc.scr0 0 (yY 10 l) with | .ok x => .ok x | .error i => .error (20, i)) := qh (Sc.parse_small om)
  have hd : decide ((65536 : Int) < (l.length : Int)) = false := zo; have hl6 : l.length <= 65536 := om; have HT := qh ht; have HLN := qh (wR 10 l); have HLL := qh (aT 10 l); have HSPL := qh fun (W : World) (hb : zW w W) => (ht.below hb).p.ct.ml.elim fun m hm => split10 l hl m W hm; have HZ0 : Hid ((prog.info? 61).map (·.size) = some (scA Sc.scr0 (.slice none 0 0)).size) := qh (by rw [qM scr0_z]; exact infoSc); obtain ⟨Z, HZ⟩ : ∃ Z, Hid (Z = Sc.linesR Sc.scr0 0 (yY 10 l)) := ⟨_, qh rfl⟩; rw [← HZ.o] at HO; generalize Sc.parseX l = o at *; generalize yY 10 l = L at *; clear hbig hl ht
  go_enter func16, ntmps16
  go_wp2_with (first
   | (refine zQ (w := w) rfl 61 rf _ nQ ?_; intro w1 hw1; have HR1 : Hid (Blk w1 w.heap.size 61 (scA scrZ (.slice none 0 0))) := (by rw [hw1]; exact qh (Blk.new _ _ _)); have HB1 : Hid (zW w w1) := (by rw [hw1]; exact qh (yD w _)); have hz1 := HR1.o.lt; clear hw1)
   | (refine zQ (w := w1) rfl 61 rf _ nQ ?_; intro w2 hw2; have HX2 : Hid (Blk w2 w1.heap.size 61 (scA scrZ (.slice none 0 0))) := (by rw [hw2]; exact qh (Blk.new _ _ _)); have HB2 : Hid (zW w1 w2) := (by rw [hw2]; exact qh (yD w1 _)); clear hw2)
   | (refine zJ rfl 61 (.tmp 5) (.tmp 13) rf w1.heap.size (scA Sc.scr0 (.slice none 0 0)) rf rf _ _ HX2.o HZ0.o rfl (fB rfl) ?_; intro w3 hw3; have HX3 : Hid (Blk w3 w1.heap.size 61 (scA Sc.scr0 (.slice none 0 0))) := (by rw [hw3]; exact qh (HX2.o.setRow _)); have HB3 : Hid (zW w1 w3) := (by rw [hw3]; exact qh (below_setRow HB2.o zn _)); clear hw3))
  have HB4 : Hid (zW w w3) := qh (HB1.o.trans (HB3.o.mono (jI hz1))); refine zT (HSPL.o _ HB4.o) fun w4 hw4 => ?_; have hz3 := HX3.o.lt; have hb5 : zW w3 w4 := by rw [hw4]; exact yD w3 _
  have HB5 : Hid (zW w w4) := qh (HB4.o.trans (hb5.mono HB4.o.size)); have hz4 := hb5.size
  have HLB : Hid (∀ W, w4.grownBy W (some w1.heap.size) -> RdP W 1 encS (some ⟨w3.heap.size, 0, none⟩) L) := qh fun W hg => by
   have h := lit_rd vU w3 9 L (by have := HLN.o; omega) _ rfl; rw [← hw4] at h; exact h.grownS hg fun a e => by cases e; simp; omega
  have HRB : Hid (∀ W, w4.grownBy W (some w1.heap.size) -> Blk W w.heap.size 61 (scA scrZ (.slice none 0 0))) := qh fun W hg => ((HR1.o.below HB3.o hz1).below hb5 om).grownO hg zo; have HBB : Hid (∀ W, w4.grownBy W (some w1.heap.size) -> zW w W) := qh fun W hg => HB5.o.trans (jB hg HB5.o.size (jI hz1)); have HSX : Hid (SX w1.heap.size w4) := qh ⟨w, HT.o, HB5.o, jI hz1⟩; have HP0 : Hid (PrS w4 w1.heap.size L Z 0 Sc.scr0 [] (.slice none 0 0) w4) := qh ⟨⟨⟨HX3.o.below hb5 HX3.o.lt, scr0_z⟩, xL _ _ _ _, rfl, (fun s hs => by cases hs), (fun s hs => by cases hs), jM _ _, om, om⟩, by rw [xU]; exact HZ.o, zi⟩; have hLz : L.length <= 65537 := by have := HLN.o; omega
  clear hw4 hb5 HR1 HB1 HX2 HB2 HX3 HB3 HB4 HSPL HT HZ; go_wp2_with fail
  go_loopw [6, 7, 17] (fun _ _ vi wr => ∃ (k : Nat) (x : Sc.Scr) (sts : List StV) (v : Value), vi = .int .i64 k /\ k <= L.length /\ Hid (PrS w4 w1.heap.size L Z k x sts v wr)) (fun _ _ vi _ => L.length - (intOf vi).toNat)
  case atStart => exact ⟨0, Sc.scr0, [], _, rfl, yQ _, HP0⟩
  case round =>
   obtain ⟨k, x, sts, v, rfl, hk, HU⟩ := hrel
   by_cases hlt : k < L.length
   ·obtain ⟨b, off, hbo, hbl, hcell⟩ := (HLB.o wr HU.o.S.gr).at hlt
    cases hbo; have hc := hcell 0 (.string (str L[k])) rfl; simp only [jN, zCe, xN] at hc; have HYL : Hid (L[k].length <= 65536) := qh (by have := HLL.o _ (yU hlt); omega); have HEQ : Hid (Z = if Sc.skipped L[k] = true then Sc.linesR x (k + 1) (L.drop (k + 1)) else match Sc.takeR x L[k] with | some y => Sc.linesR y (k + 1) (L.drop (k + 1)) | none => .error (k + 1)) := qh (by rw [HU.o.eq, yE hlt]; rfl); generalize L[k] = y at *; clear hcell
    by_cases hy0 : y = []
    ·subst hy0
     have HN : Hid (PrS w4 w1.heap.size L Z (k + 1) x sts v wr) := qh ⟨HU.o.S, HEQ.o, HU.o.n⟩; have htl0 := vX ([] : List UInt8); clear HEQ HYL
     go_wp2
     exact ⟨⟨k + 1, x, sts, v, by go_num, om, HN⟩, by simp [intOf]; omega⟩
    ·obtain ⟨c, r, hcr⟩ : ∃ c r, y = c :: r := by
      cases y with
      | nil => exact absurd rfl hy0
      | cons c r => exact ⟨c, r, rfl⟩
     have hpos : 0 < y.length := by rw [hcr]; simp
     have hem : y.isEmpty = false := by rw [hcr]; rfl
     have hg : ∀ h, (str y)[0]'h = c := fun h => by rw [jS]; simp [hcr]
     have hsy : (str y).size = y.length := zZ y; have hty := vX y; have HSK : Hid (Sc.skipped y = decide (c = 35)) := qh (by rw [hcr]; unfold Sc.skipped; simp); clear hcr hy0
     by_cases h35 : c = 35
     ·have HN : Hid (PrS w4 w1.heap.size L Z (k + 1) x sts v wr) := qh ⟨HU.o.S, by rw [HEQ.o, HSK.o, zN (by simpa using h35)], HU.o.n⟩
      have hcd : ((c.toNat : Int) != 35) = false := by rw [h35]; rfl
      clear HEQ HYL h35 HSK
      go_wp2
      exact ⟨⟨k + 1, x, sts, v, by go_num, om, HN⟩, by simp [intOf]; omega⟩
     ·have HEQ2 : Hid (Z = match Sc.takeR x y with | some y => Sc.linesR y (k + 1) (L.drop (k + 1)) | none => .error (k + 1)) := qh (by rw [HEQ.o, HSK.o, zH (by simpa using h35)])
      have hcd : ((c.toNat : Int) != 35) = true := by
       simp only [jZ, qR]; exact fun e => h35 (uH.1 (by show c.toNat = 35; omega))
      have HTK := qh (scr_take (fun b => w4.heap.size <= b) w4 w1.heap.size x sts v wr y HYL.o HU.o.S HSX.o HU.o.n (fun b hb => hb)); have HTN := qh fun y' (h : Sc.takeR x y = some y') => take_n h (by rw [← HU.o.S.st, yX]; exact HU.o.n); obtain ⟨o2, HO2⟩ : ∃ o2, Hid (Sc.takeR x y = o2) := ⟨_, qh rfl⟩; rw [HO2.o] at HTK HEQ2 HTN; clear HEQ HYL h35 HSK HO2; go_wp2_with fail
      refine HTK.o.mono ?_; rintro e w5 ⟨rfl, hg5, hs5⟩; have HG5 := qh hg5; have HS5 := qh hs5; clear hg5 hs5
      cases o2 with
      |none =>
       have HER : Hid (o = .error (20, k + 1)) := qh (by rw [HO.o, HEQ2.o]); have HRB5 := qh (HRB.o w5 HG5.o); have HBB5 := qh (HBB.o w5 HG5.o)
       go_wp2_with (refine zJ rfl 61 (.tmp 2) (.tmp 34) rf w.heap.size (scA scrZ (.slice none 0 0)) rf rf _ _ HRB5.o HZZ.o rfl (fB rfl) ?_; intro w6 hw6; have HR6 : Hid (Blk w6 w.heap.size 61 (scA scrZ (.slice none 0 0))) := (by rw [hw6]; exact qh (HRB5.o.setRow _)); have HB6 : Hid (zW w w6) := (by rw [hw6]; exact qh (below_setRow HBB5.o zn _)); clear hw6)
       exact zC (jK rfl _ _ _ _ _ _ _ rfl HR6.o underlying61 rfl HZZ.o) rfl ⟨scrZ, [], _, 20, k + 1, rfl, ScIn.nil lI rfl, HB6.o, (fun y hy => by rw [HER.o] at hy; cases hy), (fun k hk => by rw [HER.o] at hk; cases hk; exact ⟨rfl, rfl, rfl⟩)⟩
      |some x' =>
       obtain ⟨sts', v', hS'⟩ := HS5.o x' rfl; have HN : Hid (PrS w4 w1.heap.size L Z (k + 1) x' sts' v' w5) := qh ⟨hS', HEQ2.o, by have := HTN.o x' rfl; rw [← hS'.st, yX] at this; exact this⟩; clear hS' HEQ2 HTN HS5 HG5 HTK
       go_wp2
       exact ⟨⟨k + 1, x', sts', v', by go_num, om, HN⟩, by simp [intOf]; omega⟩
   ·obtain rfl : k = L.length := om
    have HOK : Hid (o = .ok x) := qh (by rw [HO.o, HU.o.eq, qO]; rfl); have HRB5 := qh (HRB.o wr HU.o.S.gr); have HBB5 := qh (HBB.o wr HU.o.S.gr); have HZX : Hid ((prog.info? 61).map (·.size) = some (scA x v).size) := qh (by rw [qM HU.o.S.at_.z]; exact infoSc); have HZE : Hid ((scA scrZ (.slice none 0 0)).size = (scA x v).size) := qh (by rw [qM HU.o.S.at_.z]; rfl); have HVO : Hid (v.oneCell' = true) := qh (by obtain ⟨p, c, rfl⟩ := uG HU.o.S.own; rfl)
    go_wp2_with (first
     | (refine yI rf 61 (.tmp 5) rf w1.heap.size rf _ (scA x v) (0, 0) _ HU.o.S.at_.b underlying61 rfl HZX.o ?_)
     | (refine zJ rfl 61 (.tmp 2) (.tmp 38) rf w.heap.size (scA x v) rf rf _ _ HRB5.o HZX.o HZE.o (fB HVO.o) ?_; intro w6 hw6; have HR6 : Hid (Blk w6 w.heap.size 61 (scA x v)) := (by rw [hw6]; exact qh (HRB5.o.setRow _)); have HB6 : Hid (zW w w6) := (by rw [hw6]; exact qh (below_setRow HBB5.o zn _)); have HG6 : Hid (wr.grownBy w6 (some w.heap.size)) := (by rw [hw6]; exact qh (uV _ _ _)); clear hw6))
    have HIN : Hid (ScIn xX w6 x sts v) := qh ⟨HU.o.S.at_.z, HU.o.S.st, SlR.of_owns kX (mO HU.o.S.own HG6.o (fun k e => by cases e; omega)), (fun s hs => (uB.grown (HU.o.S.inn s hs) HG6.o (fun b hb e => by cases e; have := hb.1; omega)).imp fun _ _ => trivial), HU.o.S.p16⟩; exact zC (jK rfl _ _ _ _ _ _ _ rfl HR6.o underlying61 rfl HZX.o) rfl ⟨x, sts, v, 0, 0, rfl, HIN.o, HB6.o, (fun y hy => by rw [HOK.o] at hy; cases hy; exact ⟨rfl, rfl, rfl⟩), (fun k hk => by rw [HOK.o] at hk; cases hk)⟩
end Go.Proofs.YtdbgeobolongmaaGreatDoor
