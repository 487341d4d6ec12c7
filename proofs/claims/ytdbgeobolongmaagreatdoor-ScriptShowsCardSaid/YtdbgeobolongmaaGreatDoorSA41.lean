/- Part of the proof: ScriptLines, ScriptParses, ScriptShows. -/
import Derived.Test.YtdbgeobolongmaaGreatDoorSA39
import Derived.Test.YtdbgeobolongmaaGreatDoorSA40
set_option linter.unusedVariables false
set_option linter.unusedSimpArgs false
set_option maxRecDepth 100000
set_option maxHeartbeats 4000000
namespace Go.Proofs.YtdbgeobolongmaaGreatDoor
open Go.RowKit Go.Shelf Go.Proofs Go.OctetPlain Go.PrefixPlain Go.ColonPlain Go.Proofs.Tryz
theorem rest_cases : ∀ k, k < 16 -> Sc.restL.getD k 0 = 46 ∨ Sc.restL.getD k 0 = 83 ∨ Sc.restL.getD k 0 = 72 ∨ Sc.restL.getD k 0 = 87 ∨ Sc.restL.getD k 0 = 80 ∨ Sc.restL.getD k 0 = 81 ∨ Sc.restL.getD k 0 = 84 := zd
theorem r32_behind (t : Sc.Stp) (k : Nat) (hk : k < 16) (hkd : t.kind = (k : Int)) (h0 : t.hop = Sc.hop0) (hw : t.ways = []) (p16 : t.pf.addr.length = 16) (l : List Hp.Wd) (hl : aU l) (v : Value) (w : World) (hv : SlR w 1 encS v l) :
  Calls prog 31 #[.agg (oA (svD t)), v] w (zBs (Sc.behindD (Sc.restL.getD k 0) t l) w) := by
 rcases rest_cases k hk with h | h | h | h | h | h | h
 ·have := beh_dot t k hk hkd h h0 hw p16 l hl.1 v w hv
  rw [h]; exact this
 ·have := beh_S t k hk hkd h h0 hw p16 l hl.1 hl.2.1 v w hv
  rw [h]; exact this
 ·have := beh_H t k hk hkd h h0 hw p16 l hl.1 (by have := hl.2.2; omega) v w hv
  rw [h]; exact this
 ·have := beh_W t k hk hkd h h0 hw p16 l hl.1 hl.2.1 v w hv
  rw [h]; exact this
 ·have := beh_PQ t k hk hkd false 80 (Or.inl ⟨rfl, rfl⟩) h h0 hw p16 l hl.1 hl.2.1 v w hv
  rw [h]; exact this
 ·have := beh_PQ t k hk hkd true 81 (Or.inr ⟨rfl, rfl⟩) h h0 hw p16 l hl.1 hl.2.1 v w hv
  rw [h]; exact this
 ·have := beh_T t k hk hkd h h0 hw p16 l hl.1 hl.2.1 v w hv
  rw [h]; exact this
def RetOneT (o : Option Sc.Stp) (W : World) (e : Ending) (W' : World) : Prop := ∃ s', e = .returned (.tuple #[.agg (zY s'), .bool o.isSome]) /\ s'.t = o.getD Sc.z /\ s'.t.pf.addr.length = 16 /\ vG (fun b => W.heap.size <= b) W' s' /\ zW W W'
structure OnD (w : World) (X : Nat) (k : Nat) (Z : Option Sc.Stp) (f : List UInt8) (j : Nat) (t : Sc.Stp) (l : List Hp.Wd) (vl : Value) (wr : World) : Prop where
 o : OAt wr X (svD t)
 r : Blk wr w.heap.size 46 (zY (svD Sc.z))
 b : zW w wr
 xr : w.heap.size < X
 kd : t.kind = (k : Int)
 h0 : t.hop = Sc.hop0
 hw : t.ways = []
 iz : t.is = false /\ t.port = 0 /\ t.mpls = false /\ t.bytes = []
 F : aU l
 V : SlP (fun b => b ≠ X) wr 1 encS vl l
 eq : Z = match Sc.readsD (f.drop j) t l with | some (x, r) => Sc.behindD (Sc.restL.getD k 0) x r | none => none
theorem OnD.next {w wr w' : World} {X k j : Nat} {Z : Option Sc.Stp} {f : List UInt8} {t : Sc.Stp} {l : List Hp.Wd} {vl : Value} (h : OnD w X k Z f j t l vl wr) (hb : zW wr w') : OnD w X k Z f j t l vl w' :=
 ⟨h.o.next hb, h.r.below hb h.r.lt, h.b.trans (hb.mono h.b.size), h.xr, h.kd, h.h0, h.hw, h.iz, h.F, h.V.below hb zn, h.eq⟩
theorem setD_same (c : UInt8) (t : Sc.Stp) (n : Int) : (Sc.setD c t n).kind = t.kind /\ (Sc.setD c t n).hop = t.hop /\ (Sc.setD c t n).ways = t.ways /\ (Sc.setD c t n).pf = t.pf /\ ((Sc.setD c t n).is = t.is /\ (Sc.setD c t n).port = t.port /\ (Sc.setD c t n).mpls = t.mpls /\ (Sc.setD c t n).bytes = t.bytes) := by
 unfold Sc.setD
 split
 ·exact ⟨rfl, rfl, rfl, rfl, rfl, rfl, rfl, rfl⟩
 ·split
  ·exact ⟨rfl, rfl, rfl, rfl, rfl, rfl, rfl, rfl⟩
  ·exact ⟨rfl, rfl, rfl, rfl, rfl, rfl, rfl, rfl⟩
theorem OnD.step {w wr : World} {X k j : Nat} {Z : Option Sc.Stp} {f : List UInt8} {t : Sc.Stp} {x : Hp.Wd} {l : List Hp.Wd} {vl v' : Value} {c : UInt8} {o : Nat} {W' : World} (h : OnD w X k Z f j t (x :: l) vl wr) (hj : j < f.length) (hc : f[j] = c) (hn : ¬ Sc.numD x < 0)
  (hW : W' = wr.setCell ⟨X, o, none⟩ (.int .i64 (Sc.numD x))) (ho : OAt W' X (svD (Sc.setD c t (Sc.numD x)))) (hv : SlP (fun b => b ≠ X) wr 1 encS v' l) : OnD w X k Z f (j + 1) (Sc.setD c t (Sc.numD x)) l v' W' := by
 subst hW; obtain ⟨e1, e2, e3, e4, e5⟩ := setD_same c t (Sc.numD x); refine ⟨ho, h.r.grownO (vH _ _ _ _) (fun e => by have := h.xr; simp at e; omega), h.b.trans (jB (vH _ _ _ _) h.b.size (jI h.xr)), h.xr, by rw [e1]; exact h.kd, by rw [e2]; exact h.h0, by rw [e3]; exact h.hw, by rw [e5.1, e5.2.1, e5.2.2.1, e5.2.2.2]; exact h.iz, h.F.tail, hv.grown (vH _ _ _ _) (fun b hb e => by cases e; exact hb rfl), ?_⟩; rw [h.eq, yE hj, hc]
 show (match (if Sc.numD x < 0 then none else Sc.readsD (f.drop (j + 1)) (Sc.setD c t (Sc.numD x)) l) with | some (x, r) => Sc.behindD (Sc.restL.getD k 0) x r | none => none) = _
 rw [zH hn]
theorem OnD.no {w wr : World} {X k j : Nat} {Z : Option Sc.Stp} {f : List UInt8} {t : Sc.Stp} {l : List Hp.Wd} {vl : Value} (h : OnD w X k Z f j t l vl wr) (hj : j < f.length) (hn : l = [] ∨ ∃ x r, l = x :: r /\ Sc.numD x < 0) : Z = none := by
 rw [h.eq, yE hj]
 rcases hn with rfl | ⟨x, r, rfl, hx⟩
 ·rfl
 ·show (match (if Sc.numD x < 0 then none else Sc.readsD (f.drop (j + 1)) (Sc.setD f[j] t (Sc.numD x)) r) with | some (x, r) => Sc.behindD (Sc.restL.getD k 0) x r | none => none) = _
  rw [zN hx]
theorem behind_same {c : UInt8} {x y : Sc.Stp} {l : List Hp.Wd} (h : Sc.behindD c x l = some y) : y.is = x.is /\ y.port = x.port /\ y.mpls = x.mpls /\ y.bytes = x.bytes := by
 have hW : ∀ {x y : Sc.Stp} {l : List Hp.Wd}, Sc.behW x l = some y -> y.is = x.is /\ y.port = x.port /\ y.mpls = x.mpls /\ y.bytes = x.bytes := fun {x y l} h => by
  unfold Sc.behW at h
  split at h
  ·cases h; exact ⟨rfl, rfl, rfl, rfl⟩
  ·cases h
 unfold Sc.behindD at h
 split at h
 ·unfold Sc.behS at h
  split at h
  ·split at h
   ·cases h; exact ⟨rfl, rfl, rfl, rfl⟩
   ·cases h
  ·cases h
 ·split at h
  ·unfold Sc.behH at h
   split at h
   ·cases h; exact ⟨rfl, rfl, rfl, rfl⟩
   ·cases h
  ·split at h
   ·exact hW h
   ·split at h
    ·unfold Sc.behP at h
     split at h
     ·cases h
     ·split at h
      ·split at h
       ·split at h
        ·have h2 := hW h
         exact h2
        ·split at h
         ·cases h; exact ⟨rfl, rfl, rfl, rfl⟩
         ·cases h
       ·cases h
      ·cases h
    ·split at h
     ·unfold Sc.behT at h
      split at h
      ·split at h
       ·cases h; exact ⟨rfl, rfl, rfl, rfl⟩
       ·cases h
      ·cases h
     ·split at h
      ·cases h; exact ⟨rfl, rfl, rfl, rfl⟩
      ·cases h
theorem wpList_exec {P : Program} {ops : Array Oper} {rest : List Oper} {o : Oper} {a : Act} {w : World} {Q : Exit -> Act -> World -> Prop} (hg : o.guard = none) (v : Value) (hr : (execOp a.eval o).run P w = .ok (.value v) w) (h : wpList P ops Q rest (a.put o.dst v) w) : wpList P ops Q (o :: rest) a w :=
 zEs hg fun K hK => by
  unfold Oper.wp; rw [hr, Oper.upon_value]; exact hK _ _ h
theorem r32_One (s : List UInt8) (hs : s.length <= 65536) (w : World) :
  Calls prog 11 #[.string (str s)] w (RetOneT (Sc.oneR s) w) := by
 have HW := qh fun W => zAz 32 s om W; rw [zBy] at HW; have HF := qh (aU.spl hs); have HO0 : Hid (Sc.oneR s = Sc.oneD (Hp.spl s)) := qh (Sc.oneD_eq _).symm
 obtain ⟨x, r, hxr⟩ : ∃ x r, Hp.spl s = x :: r := by
  cases h : Hp.spl s with
  | nil => exact absurd h (Hp.spl_ne s)
  | cons x r => exact ⟨x, r, rfl⟩
 rw [hxr] at HW HF HO0; rw [Sc.oneD_cons] at HO0; have HPK := qh fun (W : World) v hv => r32_packet (x :: r) HF.o.1 HF.o.2.1 v W hv; have HKI := qh fun W => r32_kind x W; have HFR := qh HF.o.tail; have hrl : r.length + 1 <= 1048576 := by have := HF.o.1; simpa using this
 have hxl := HF.o.2.1 x yH; generalize Sc.packetD (x :: r) = op at *; generalize Sc.oneR s = o at *; clear hxr hs
 go_enter func11, ntmps11
 go_wp2_with (refine zQ (w := w) rfl 46 rf _ zAi ?_; intro w1 h1; have HR1 : Hid (Blk w1 w.heap.size 46 (zY (svD Sc.z))) := (by rw [h1]; exact qh (Blk.new _ _ _)); have HB1 : Hid (zW w w1) := (by rw [h1]; exact qh (yD w _)); clear h1)
 refine (HW.o _).mono ?_; rintro e w2 ⟨v2, rfl, ho2, hb2⟩; have HR2 := qh (HR1.o.below hb2 HR1.o.lt); have HB2 := qh (HB1.o.trans (hb2.mono HB1.o.size)); obtain ⟨p2, k2, rfl⟩ := uG ho2; have HV2 := qh (SlP.of_owns vU ho2).bd; clear hb2 ho2; go_wp2_with fail
 refine (HPK.o _ _ HV2.o.sl).mono ?_; rintro e w3 ⟨s3, rfl, hs3, hp3, hi3, hb3⟩; have HR3 := qh (HR2.o.below hb3 HR2.o.lt); have HB3 := qh (HB2.o.trans (hb3.mono HB2.o.size)); have HV3 := qh (HV2.o.below hb3 zn); have HZ3 : Hid (w.heap.size < w2.heap.size) := qh HR2.o.lt; have HI3 : Hid (vG (fun b => w.heap.size < b) w3 s3) := qh (hi3.imp fun b hb => by have := HR2.o.lt; omega); have HS3 := qh hs3; have HP3 := qh hp3; have hz3 := hb3.size; clear hb3 hi3 hs3 hp3
 have HK3 : Hid (∀ wa wb, wa = w3.alloc (.cells (zY (svD Sc.z)) 46) -> wb = wa.setRow w3.heap.size (zY s3) -> Blk wb w3.heap.size 46 (zY s3) /\ zW w3 wb) := qh fun wa wb e1 e2 => by
  subst e1 e2; exact ⟨(Blk.new _ _ _).setRow _, below_setRow (yD _ _) zn _⟩
 cases op with
 |some y =>
  have HON : Hid (o = some s3.t) := qh (by rw [HO0.o, HS3.o y rfl])
  go_wp2_with (first
   | (refine zQ (w := w3) rfl 46 rf _ zAi ?_; intro w4 h4; have HE4 := qh h4; clear h4)
   | (refine zJ rfl 46 (.tmp 5) (.tmp 17) rf w3.heap.size (zY s3) rf rf 46 (zY (svD Sc.z)) (by rw [HE4.o]; exact Blk.new _ _ _) (by rw [zO]; exact kZ) (by rw [zO, zO]) HI3.o.one ?_; intro w5 h5; have HK5 := qh (HK3.o w4 w5 HE4.o h5); have HR5 := qh (HR3.o.below HK5.o.2 HR3.o.lt); have HB5 := qh (HB3.o.trans (HK5.o.2.mono HB3.o.size)); have HI5 := qh (HI3.o.below HK5.o.2 zn); clear h5)
   | (refine yI rf 46 (.tmp 5) rf w3.heap.size rf _ (zY s3) (0, 0) _ HK5.o.1 underlying46 rfl (by rw [zO]; exact kZ) ?_)
   | (refine zJ rfl 46 (.tmp 2) (.tmp 20) rf w.heap.size (zY s3) rf rf _ _ HR5.o (by rw [zO]; exact kZ) (by rw [zO, zO]) HI5.o.one ?_; intro w8 hw8; have HR8 : Hid (Blk w8 w.heap.size 46 (zY s3)) := (by rw [hw8]; exact qh (HR5.o.setRow _)); have HB8 : Hid (zW w w8) := (by rw [hw8]; exact qh (below_setRow HB5.o zn _)); have HI8 : Hid (vG (fun b => w.heap.size <= b) w8 s3) := (by rw [hw8]; exact qh ((HI5.o.grown (uV _ _ _) (fun b hb e => by cases e; exact tC _ hb)).imp fun b hb => jI hb)); clear hw8))
  exact zC (results_cell_tmp rfl _ _ _ _ _ _ _ rfl HR8.o underlying46 rfl (by rw [zO]; exact kZ)) rfl ⟨s3, by rw [HON.o]; rfl, by rw [HON.o]; rfl, HP3.o, HI8.o, HB8.o⟩
 |none =>
  have HO1 : Hid (o = if 16 <= Sc.idx x then none else match Sc.readsD (Sc.fieldsL.getD (Sc.idx x) []) { Sc.z with kind := Sc.idx x } r with | some (x', r) => Sc.behindD (Sc.restL.getD (Sc.idx x) 0) x' r | none => none) := qh HO0.o
  obtain ⟨b, off, rfl, HCX⟩ : ∃ b off, p2 = some ⟨b, off, none⟩ /\ Hid (∀ W, zW w3 W -> W.cell? ⟨b, off, none⟩ = some (.string (str x))) := by
   obtain ⟨pp, cap, hvv, q1, q2, hR, hq⟩ := HV3.o; obtain ⟨b, off, hpp, hbl, hc⟩ := hR.at (i := 0) zi; injection hvv with e1 e2 e3
   subst e1; subst hpp; have hc0 := hc 0 (.string (str x)) rfl; simp only [jP, xN] at hc0; exact ⟨b, off, rfl, qh fun W hb => by rw [hb.cell (p := ⟨b, off, none⟩) (sW _ _ hc0)]; exact hc0⟩
  simp only [zI] at HV3
  by_cases hk : Sc.idx x < 16
  ·have HKV : Hid (bI x = (Sc.idx x : Int)) := qh (by unfold bI; rw [zN hk])
   rw [HKV.o] at HKI; obtain ⟨Z, HZ⟩ : ∃ Z, Hid (Z = match Sc.readsD (Sc.fieldsL.getD (Sc.idx x) []) { Sc.z with kind := Sc.idx x } r with | some (x', r) => Sc.behindD (Sc.restL.getD (Sc.idx x) 0) x' r | none => none) := ⟨_, qh rfl⟩; have HOZ : Hid (o = Z) := qh (by rw [HO1.o, zH om, HZ.o]); have HFD := qh fun W => r32_fields (Sc.idx x) hk W; obtain ⟨hfl, hfc⟩ := fields_of _ hk; have HFC := qh hfc; have HK16 := qh hk; have HBH := qh fun (t : Sc.Stp) (hkd : t.kind = (Sc.idx x : Int)) (h0 : t.hop = Sc.hop0) (hw : t.ways = []) (p16 : t.pf.addr.length = 16) (l : List Hp.Wd) (hl : aU l) (v : Value) (W : World) (hv : SlR W 1 encS v l) => r32_behind t (Sc.idx x) hk hkd h0 hw p16 l hl v W hv; have HKU : Hid (zW w3 w3) := qh zb; clear HO1 HO0 HKV hk hfc HS3; generalize Sc.fieldsL.getD (Sc.idx x) [] = f at *; generalize Sc.idx x = k at *
   go_wp2_with (first
    | (refine zQ (w := w3) rfl 46 rf _ zAi ?_; intro w4 h4; have HE4 := qh h4; clear h4)
    | (refine zJ rfl 46 (.tmp 5) (.tmp 17) rf w3.heap.size (zY s3) rf rf 46 (zY (svD Sc.z)) (by rw [HE4.o]; exact Blk.new _ _ _) (by rw [zO]; exact kZ) (by rw [zO, zO]) HI3.o.one ?_; intro w5 h5; have HK5 := qh (HK3.o w4 w5 HE4.o h5); have HR5 := qh (HR3.o.below HK5.o.2 HR3.o.lt); have HB5 := qh (HB3.o.trans (HK5.o.2.mono HB3.o.size)); have HV5 := qh (HV3.o.below HK5.o.2 zn); have d0 := HCX.o w5 HK5.o.2; clear h5))
   refine zT (HKI.o _) fun w6 hb6 => ?_; have HR6 := qh (HR5.o.below hb6 HR5.o.lt); have HB6 := qh (HB5.o.trans (hb6.mono HB5.o.size)); have HV6 := qh (HV5.o.below hb6 zn); have hz6 := hb6.size; have hz5 := HK5.o.2.size; have HZ6 : Hid (w.heap.size < w6.heap.size) := qh HR6.o.lt; have HVB : Hid (SlP (fun b => b ≠ w6.heap.size) w6 1 encS (.slice (some ⟨b, off, none⟩) (r.length + 1) k2) (x :: r)) := qh (HV6.o.imp fun b hb => by have := hb.2; omega); clear hb6 d0
   have HK6 : Hid (∀ wa wb, wa = w6.alloc (.cells (oA (svD Sc.z)) 42) -> wb = wa.setRow w6.heap.size (oA (svD { Sc.z with kind := (k : Int) })) -> OAt wb w6.heap.size (svD { Sc.z with kind := (k : Int) }) /\ zW w6 wb) := qh fun wa wb e1 e2 => by
    subst e1 e2; exact ⟨⟨(Blk.new _ _ _).setRow _, rfl⟩, below_setRow (yD _ _) zn _⟩
   have HOO : Hid ((oA (svD { Sc.z with kind := (k : Int) })).all (·.oneCell') = true) := qh (oA_one rfl rfl rfl)
   go_wp2_with (first
    | (refine zQ (w := w6) rfl 42 rf _ oU ?_; intro w7 h7; have HE7 := qh h7; clear h7)
    | (refine zJ rfl 42 (.tmp 7) (.tmp 25) rf w6.heap.size (oA (svD { Sc.z with kind := (k : Int) })) rf rf 42 (oA (svD Sc.z)) (by rw [HE7.o]; exact Blk.new _ _ _) (by rw [kI]; exact lX) (by rw [kI, kI]) HOO.o ?_; intro w8 h8; have HK8 := qh (HK6.o w7 w8 HE7.o h8); have HR8 := qh (HR6.o.below HK8.o.2 HR6.o.lt); have HB8 := qh (HB6.o.trans (HK8.o.2.mono HB6.o.size)); have HV8 := qh (HVB.o.below HK8.o.2 zn); have c0 := HK8.o.1.c0; simp only [svD] at c0; clear h8)
    | (refine fM rfl 79 (.tmp 30) rf underlying79 (fun w => kf) (v := .slice (some ⟨b, off, none⟩) (r.length + 1) k2) rf HV8.o ?_; intro v9 hv9; have HV9 := qh hv9; clear hv9))
   refine zT (HFD.o _) fun w9 hb9 => ?_; have HON0 : Hid (OnD w w6.heap.size k Z f 0 { Sc.z with kind := (k : Int) } r v9 w9) := qh ⟨HK8.o.1.next hb9, HR8.o.below hb9 HR8.o.lt, HB8.o.trans (hb9.mono HB8.o.size), HZ6.o, rfl, rfl, rfl, ⟨rfl, rfl, rfl, rfl⟩, HFR.o, HV9.o.below hb9 zn, by rw [xU]; exact HZ.o⟩; have hsz : (str f).size = f.length := zZ f; clear hb9 c0 HK8 HR8 HB8 HV8 HV9 HZ HR6 HB6 HV6 HVB HK6 HK5 HR5 HB5 HV5 HR3 HB3 HV3 HR2 HB2 HV2 HR1 HB1 HK3 HI3 HCX HOO HE7 HE4; go_wp2_with fail
   go_loopw [4, 9, 10] (fun vl vi _ wr => ∃ (j : Nat) (t : Sc.Stp) (l : List Hp.Wd), vi = .int .i64 j /\ j <= f.length /\ Hid (OnD w w6.heap.size k Z f j t l vl wr)) (fun _ vi _ _ => f.length - (intOf vi).toNat)
   case atStart => exact ⟨0, _, r, rfl, yQ _, HON0⟩
   case round =>
    obtain ⟨j, t, l, rfl, hj, HU⟩ := hrel; have HRR := qh HU.o.r; have HRB := qh HU.o.b
    by_cases hlt : j < f.length
    ·obtain ⟨c, hc⟩ : ∃ c, f[j] = c := ⟨_, rfl⟩
     have hg : ∀ h, (str f)[j]'h = c := fun h => by rw [jS, hc]
     have hcc := HFC.o c (by rw [← hc]; exact yU hlt); have HC := qh hc; clear hc
     cases l with
     |nil =>
      have HON : Hid (o = none) := qh (by rw [HOZ.o]; exact HU.o.no hlt (Or.inl rfl)); obtain ⟨pl, cl, rfl, -⟩ := HU.o.V; simp only [xI] at *; clear hcc
      go_wp2_with (refine zJ rfl _ (.tmp 2) (.tmp 51) rfl w.heap.size (zY (svD Sc.z)) rf rf _ _ HRR.o kZ rfl (bG (q := fun _ => True) (w := w) rfl rfl).one ?_; intro w8 hw8; have HR8 : Hid (Blk w8 w.heap.size 46 (zY (svD Sc.z))) := (by rw [hw8]; exact qh (HRR.o.setRow _)); have HB8 : Hid (zW w w8) := (by rw [hw8]; exact qh (below_setRow HRB.o zn _)); clear hw8)
      exact zC (results_cell_tmp rfl _ _ _ _ _ _ _ rfl HR8.o underlying46 rfl kZ) rfl ⟨svD Sc.z, by rw [HON.o]; rfl, by rw [HON.o]; rfl, rfl, bG rfl rfl, HB8.o⟩
     |cons y l' =>
      obtain ⟨pl, cl, hvl, q1, q2, hR, hq⟩ := HU.o.V; obtain ⟨b1, o1, hpl, hbl, hc0⟩ := hR.at (i := 0) zi; subst hpl; have d0 := hc0 0 (.string (str y)) rfl; simp only [jP, xN] at d0; simp only [zI] at hvl; subst hvl; have HNM := qh fun W => sO y (by have := HU.o.F.2.1 y yH; omega) W; have hl'z : l'.length + 1 <= 1048576 := by have := HU.o.F.1; simpa using this
      have hne : ((l'.length : Int) + 1 == 0) = false := by simp only [yF, qR]; omega
      have hnb := oM y; clear hR hq hc0 q1
      by_cases hn : Sc.numD y < 0
      ·have HON : Hid (o = none) := qh (by rw [HOZ.o]; exact HU.o.no hlt (Or.inr ⟨y, l', rfl, hn⟩))
       have hdn : decide (Sc.numD y < 0) = true := zV hn; generalize Sc.numD y = n at *; clear hcc; go_wp2_with fail
       refine zU (HNM.o _) ?_
       go_wp2_with (refine zJ rfl _ (.tmp 2) (.tmp 51) rfl w.heap.size (zY (svD Sc.z)) rf rf _ _ HRR.o kZ rfl (bG (q := fun _ => True) (w := w) rfl rfl).one ?_; intro w8 hw8; have HR8 : Hid (Blk w8 w.heap.size 46 (zY (svD Sc.z))) := (by rw [hw8]; exact qh (HRR.o.setRow _)); have HB8 : Hid (zW w w8) := (by rw [hw8]; exact qh (below_setRow HRB.o zn _)); clear hw8)
       exact zC (results_cell_tmp rfl _ _ _ _ _ _ _ rfl HR8.o underlying46 rfl kZ) rfl ⟨svD Sc.z, by rw [HON.o]; rfl, by rw [HON.o]; rfl, rfl, bG rfl rfl, HB8.o⟩
      ·have hdn : decide (Sc.numD y < 0) = false := zM hn
       have HST := qh fun (o : Nat) (W' : World) (v' : Value) => HU.o.step (o := o) (W' := W') (v' := v') hlt HC.o hn; have HVV := qh HU.o.V; have a1 := HU.o.o.c1; have a2 := HU.o.o.c2; have a3 := HU.o.o.c3; have f1 := HU.o.o.fz 1; have f2 := HU.o.o.fz 2; have f3 := HU.o.o.fz 3; have HOA := qh HU.o.o; generalize Sc.numD y = n at *; clear HC; go_wp2_with fail
       refine zU (HNM.o _) ?_; go_wp2_with fail
       refine (HNM.o _).mono ?_; rintro e w11 ⟨rfl, rfl⟩
       rcases hcc with rfl | rfl | rfl
       ·go_wp2_with (refine fM rfl 79 (.tmp 56) rf underlying79 (fun w => kf) (v := .slice (some ⟨b1, o1, none⟩) (l'.length + 1) cl) rf HVV.o ?_; intro v12 hv12; have HV12 := qh hv12; clear hv12)
        exact ⟨⟨j + 1, _, l', by go_num, om, qh (HST.o 1 _ _ rfl (HOA.o.setA n) HV12.o)⟩, by simp [intOf]; omega⟩
       ·go_wp2_with (refine fM rfl 79 (.tmp 56) rf underlying79 (fun w => kf) (v := .slice (some ⟨b1, o1, none⟩) (l'.length + 1) cl) rf HVV.o ?_; intro v12 hv12; have HV12 := qh hv12; clear hv12)
        exact ⟨⟨j + 1, _, l', by go_num, om, qh (HST.o 2 _ _ rfl (HOA.o.setN n) HV12.o)⟩, by simp [intOf]; omega⟩
       ·go_wp2_with (refine fM rfl 79 (.tmp 56) rf underlying79 (fun w => kf) (v := .slice (some ⟨b1, o1, none⟩) (l'.length + 1) cl) rf HVV.o ?_; intro v12 hv12; have HV12 := qh hv12; clear hv12)
        exact ⟨⟨j + 1, _, l', by go_num, om, qh (HST.o 3 _ _ rfl (HOA.o.setO n) HV12.o)⟩, by simp [intOf]; omega⟩
    ·obtain rfl : j = f.length := om
     have HZB : Hid (Z = Sc.behindD (Sc.restL.getD k 0) t l) := qh (by rw [HU.o.eq, qO]; rfl)
     have HOB : Hid (∀ y, Sc.behindD (Sc.restL.getD k 0) t l = some y -> y.is = false /\ y.port = 0 /\ y.mpls = false /\ y.bytes = []) := qh fun y hy => by
      obtain ⟨e1, e2, e3, e4⟩ := behind_same hy; rw [e1, e2, e3, e4]; exact HU.o.iz
     have HCB := qh (HBH.o t HU.o.kd HU.o.h0 HU.o.hw HU.o.o.p16 l HU.o.F _ wr HU.o.V.sl); generalize Sc.behindD (Sc.restL.getD k 0) t l = oo at *
     go_wp2_with (refine yI rf 42 (.tmp 7) rf w6.heap.size rf _ (oA (svD t)) (0, 0) _ HU.o.o.b underlying42 rfl (by rw [kI]; exact lX) ?_)
     refine HCB.o.mono ?_; rintro e w10 ⟨s', rfl, hs', hp', hi', hb10⟩; have HO10 := qh (HU.o.o.next hb10); have HR10 := qh (HRR.o.below hb10 HRR.o.lt); have HB10 := qh (HRB.o.trans (hb10.mono HRB.o.size)); have HI10 : Hid (uN (fun b => w6.heap.size < b) w10 s') := qh (hi'.imp fun b hb => by have := HU.o.o.lt; omega); have HS' := qh hs'; have HP' := qh hp'; have HZX : Hid (w.heap.size < w6.heap.size) := qh HU.o.xr; clear hb10 hs' hp' hi' HU HCB
     go_upto_region 24 with (refine zJ rfl 42 (.tmp 7) (.tmp 75) rf w6.heap.size (oA s') rf rf _ _ HO10.o.b (by rw [kI]; exact lX) (by rw [kI, kI]) HI10.o.one ?_; intro w11 h11; have HX11 : Hid (Blk w11 w6.heap.size 42 (oA s')) := (by rw [h11]; exact qh (HO10.o.b.setRow _)); have HG11 : Hid (w10.grownBy w11 (some w6.heap.size)) := (by rw [h11]; exact qh (uV _ _ _)); clear h11)
     have HRR := qh (HR10.o.grownO HG11.o (fun e => by have := HZX.o; have := vW e; omega)); have HRB := qh (HB10.o.trans (jB HG11.o HB10.o.size (jI HZX.o))); have HI11 := qh (HI10.o.grown HG11.o (fun b hb e => by cases e; exact tC _ hb))
     cases oo with
     |none =>
      have HON : Hid (o = none) := qh (by rw [HOZ.o, HZB.o])
      go_wp2_with (refine zJ rfl _ (.tmp 2) (.tmp 79) rfl w.heap.size (zY (svD Sc.z)) rf rf _ _ HRR.o kZ rfl (bG (q := fun _ => True) (w := w) rfl rfl).one ?_; intro w8 hw8; have HR8 : Hid (Blk w8 w.heap.size 46 (zY (svD Sc.z))) := (by rw [hw8]; exact qh (HRR.o.setRow _)); have HB8 : Hid (zW w w8) := (by rw [hw8]; exact qh (below_setRow HRB.o zn _)); clear hw8)
      exact zC (results_cell_tmp rfl _ _ _ _ _ _ _ rfl HR8.o underlying46 rfl kZ) rfl ⟨svD Sc.z, by rw [HON.o]; rfl, by rw [HON.o]; rfl, rfl, bG rfl rfl, HB8.o⟩
     |some y =>
      have HY := qh (HS'.o y rfl); have HON : Hid (o = some y) := qh (by rw [HOZ.o, HZB.o]); obtain ⟨S2, HS2⟩ : ∃ S2 : StV, Hid (S2 = { s' with t := { s'.t with is := false, port := 0, mpls := false, bytes := [] }, vb := .string (str []) }) := ⟨_, qh rfl⟩; have HBT : Hid (∀ W, (Instr.build 46 #[(1, .agg (oA s'))]).run prog W = .ok (.agg (zY S2)) W) := qh fun W => by rw [HS2.o]; exact buildTO HP'.o W
      have HT2 : Hid (S2.t = y) := qh (by
       obtain ⟨e1, e2, e3, e4⟩ := HOB.o y rfl; rw [HS2.o, ← HY.o] at *; simp only
       cases hst : s'.t
       rw [hst] at e1 e2 e3 e4; simp only at e1 e2 e3 e4; subst e1 e2 e3 e4
       rfl)
      have HP2 : Hid (S2.t.pf.addr.length = 16) := qh (by rw [HS2.o]; exact HP'.o); have HI2 : Hid (vG (fun b => w6.heap.size < b) w11 S2) := qh (by rw [HS2.o]; exact ⟨HI11.o.l, HI11.o.r, HI11.o.ws, rfl⟩); clear HS2
      go_wp2_with (first
       | (refine yI rf 42 (.tmp 7) rf w6.heap.size rf _ (oA s') (0, 0) _ HX11.o underlying42 rfl (by rw [kI]; exact lX) ?_)
       | (refine wpList_exec rfl (.agg (zY S2)) (exec_build (ty := 46) rfl (by simp only [jF, yM, xH]; exact HBT.o _)) ?_)
       | (refine zJ rfl 46 (.tmp 2) (.tmp 81) rf w.heap.size (zY S2) rf rf _ _ HRR.o (by rw [zO]; exact kZ) (by rw [zO, zO]) HI2.o.one ?_; intro w8 hw8; have HR8 : Hid (Blk w8 w.heap.size 46 (zY S2)) := (by rw [hw8]; exact qh (HRR.o.setRow _)); have HB8 : Hid (zW w w8) := (by rw [hw8]; exact qh (below_setRow HRB.o zn _)); have HI8 : Hid (vG (fun b => w.heap.size <= b) w8 S2) := (by rw [hw8]; exact qh ((HI2.o.grown (uV _ _ _) (fun b hb e => by cases e; have := HZX.o; omega)).imp fun b hb => by have := HZX.o; omega)); clear hw8))
      exact zC (results_cell_tmp rfl _ _ _ _ _ _ _ rfl HR8.o underlying46 rfl (by rw [zO]; exact kZ)) rfl ⟨S2, by rw [HON.o]; rfl, by rw [HON.o]; exact HT2.o, HP2.o, HI8.o, HB8.o⟩
  ·have HON : Hid (o = none) := qh (by rw [HO1.o, zN om])
   have HKV : Hid (bI x = -1) := qh (by unfold bI; rw [zH hk]); rw [HKV.o] at HKI; clear HO1 HO0 HKV hk HS3
   go_wp2_with (first
    | (refine zQ (w := w3) rfl 46 rf _ zAi ?_; intro w4 h4; have HE4 := qh h4; clear h4)
    | (refine zJ rfl 46 (.tmp 5) (.tmp 17) rf w3.heap.size (zY s3) rf rf 46 (zY (svD Sc.z)) (by rw [HE4.o]; exact Blk.new _ _ _) (by rw [zO]; exact kZ) (by rw [zO, zO]) HI3.o.one ?_; intro w5 h5; have HK5 := qh (HK3.o w4 w5 HE4.o h5); have HR5 := qh (HR3.o.below HK5.o.2 HR3.o.lt); have HB5 := qh (HB3.o.trans (HK5.o.2.mono HB3.o.size)); have d0 := HCX.o w5 HK5.o.2; clear h5))
   refine zT (HKI.o _) fun w6 hb6 => ?_; have HR6 := qh (HR5.o.below hb6 HR5.o.lt); have HB6 := qh (HB5.o.trans (hb6.mono HB5.o.size)); clear hb6 d0
   have HK6 : Hid (∀ wa wb, wa = w6.alloc (.cells (oA (svD Sc.z)) 42) -> wb = wa.setRow w6.heap.size (oA (svD { Sc.z with kind := -1 })) -> OAt wb w6.heap.size (svD { Sc.z with kind := -1 }) /\ zW w6 wb) := qh fun wa wb e1 e2 => by
    subst e1 e2; exact ⟨⟨(Blk.new _ _ _).setRow _, rfl⟩, below_setRow (yD _ _) zn _⟩
   have HOO : Hid ((oA (svD { Sc.z with kind := -1 })).all (·.oneCell') = true) := qh (oA_one rfl rfl rfl)
   go_upto_region 7 with (first
    | (refine zQ (w := w6) rfl 42 rf _ oU ?_; intro w7 h7; have HE7 := qh h7; clear h7)
    | (refine zJ rfl 42 (.tmp 7) (.tmp 25) rf w6.heap.size (oA (svD { Sc.z with kind := -1 })) rf rf 42 (oA (svD Sc.z)) (by rw [HE7.o]; exact Blk.new _ _ _) (by rw [kI]; exact lX) (by rw [kI, kI]) HOO.o ?_; intro w8 h8; have HK8 := qh (HK6.o w7 w8 HE7.o h8); have HRR := qh (HR6.o.below HK8.o.2 HR6.o.lt); have HRB := qh (HB6.o.trans (HK8.o.2.mono HB6.o.size)); have c0 := HK8.o.1.c0; simp only [svD] at c0; clear h8))
   go_wp2_with (refine zJ rfl _ (.tmp 2) (.tmp 29) rfl w.heap.size (zY (svD Sc.z)) rf rf _ _ HRR.o kZ rfl (bG (q := fun _ => True) (w := w) rfl rfl).one ?_; intro w8 hw8; have HR8 : Hid (Blk w8 w.heap.size 46 (zY (svD Sc.z))) := (by rw [hw8]; exact qh (HRR.o.setRow _)); have HB8 : Hid (zW w w8) := (by rw [hw8]; exact qh (below_setRow HRB.o zn _)); clear hw8)
   exact zC (results_cell_tmp rfl _ _ _ _ _ _ _ rfl HR8.o underlying46 rfl kZ) rfl ⟨svD Sc.z, by rw [HON.o]; rfl, by rw [HON.o]; rfl, rfl, bG rfl rfl, HB8.o⟩
theorem elemT : zAo prog 67 46 36 240 := .mk underlying67 (z := .agg (zY (svD Sc.z))) kf om om (zO _)
theorem zDb (w : World) : (zeroValue 69).run prog w = .ok (.agg (scA scrZ (.slice none 0 0))) w := kf
theorem infoX : (prog.info? 69).map (·.size) = some 24 := kf
theorem wpList_build1 {P : Program} {ops : Array Oper} {rest : List Oper} {o : Oper} {a : Act} {w : World} {Q : Exit -> Act -> World -> Prop} (hg : o.guard = none) (t e : TypeId) (x : Operand) (ho : o.op = .buildSlice t 1 #[(0, x)]) (cells : Array Value) (hx : a.eval x = .agg cells) (n : Nat) (hn : cells.size = n) (h0 : 0 < n) (h24 : n <= 1000)
  (hu : P.underlying t = some (.slice e)) (hsz : (P.info? e).map (·.size) = some n) (hz : ((P.info? e).bind (·.zero)).map (·.cells.size) = some n)
  (h : ∀ w', w' = w.alloc (.cells cells e) -> wpList P ops Q rest (a.put o.dst (.slice (some ⟨w.heap.size, 0, none⟩) 1 1)) w') : wpList P ops Q (o :: rest) a w :=
 zEs hg fun K hK => mG t e x ho cells hx n hn h0 h24 hu hsz hz (hK _ _ (h _ rfl))
theorem wpList_app_big {P : Program} {ops : Array Oper} {rest : List Oper} {o : Oper} {a : Act} {w : World} {Q : Exit -> Act -> World -> Prop} {t e : TypeId} {size bytes : Nat} (hg : o.guard = none) (hE : zAo P t e size bytes) (s x : Operand)
  (ho : o.op = .call { callee := .builtin .append, args := #[s, x], argTypes := #[t, t] })
  (base : Nat) (v : Value) (n : Nat) (xs : List Value) (hs : a.eval s = v) (hown : w.ownsRow base e size v n xs)
  (ad : Addr) (m c : Nat) (news : List Value) (hx : a.eval x = .slice (some ad) m c) (hl : news.length = m * size) (hnews : ∀ j u, news[j]? = some u -> w.cell? (ad.add j) = some u) (h1 : ∀ u ∈ news, u.oneCell' = true)
  (hsm : n + m <= 1073741824) (hbase : base <= w.heap.size)
  (h : ∀ v' w', w'.ownsRow base e size v' (n + m) (xs ++ news) -> w.grownBy w' v.ownBlock -> (v'.ownBlock = v.ownBlock ∨ v'.ownBlock = some w.heap.size) -> wpList P ops Q rest (a.put o.dst v') w') : wpList P ops Q (o :: rest) a w :=
 zEs hg fun K hK => tV hE s x ho base v n xs hs hown ad m c news hx hl hnews h1 hsm hbase fun v' w' a1 a2 a3 => hK _ _ (h v' w' a1 a2 a3)
structure PrD (WB : World) (X : Nat) (L : List Hp.Wd) (Z : Except Nat Sc.Scr) (k : Nat) (x : Sc.Scr) (sts : List StV) (v : Value) (wr : World) : Prop where
 S : ScS 69 46 vG (fun b => WB.heap.size <= b) WB X x sts v wr
 eq : Z = Sc.linesR x k (L.drop k)
 n : sts.length <= 1000
theorem r32_Parse (l : List UInt8) (hl : l.length <= 1000000) (w : World) :
  Calls prog 17 #[.string (str l)] w (RetScr vG (Sc.parseX l) w) := by
 have hsz : (str l).size = l.length := zZ l; have HZZ : Hid ((prog.info? 69).map (·.size) = some (scA scrZ (.slice none 0 0)).size) := qh (by rw [qM lI]; exact infoX)
 by_cases hbig : 65536 < l.length
 ·have HO : Hid (Sc.parseX l = .error (2, 0)) := qh (by unfold Sc.parseX; rw [zN hbig])
  have hd : decide ((65536 : Int) < (l.length : Int)) = true := zo
  go_enter func17, ntmps17
  go_wp2_with (first
   | (refine zQ rfl 69 rf _ zDb ?_; intro w1 hw1; have HR1 : Hid (Blk w1 w.heap.size 69 (scA scrZ (.slice none 0 0))) := (by rw [hw1]; exact qh (Blk.new _ _ _)); have HB1 : Hid (zW w w1) := (by rw [hw1]; exact qh (yD w _)); clear hw1)
   | (refine zJ rfl 69 (.tmp 2) (.tmp 18) rf w.heap.size (scA scrZ (.slice none 0 0)) rf rf _ _ HR1.o HZZ.o rfl (fB rfl) ?_; intro w2 hw2; have HR2 : Hid (Blk w2 w.heap.size 69 (scA scrZ (.slice none 0 0))) := (by rw [hw2]; exact qh (HR1.o.setRow _)); have HB2 : Hid (zW w w2) := (by rw [hw2]; exact qh (below_setRow HB1.o zn _)); clear hw2))
  exact zC (jK rfl _ _ _ _ _ _ _ rfl HR2.o underlying69 rfl HZZ.o) rfl ⟨scrZ, [], _, 2, 0, rfl, ScIn.nil lI rfl, HB2.o, (fun y hy => by rw [HO.o] at hy; cases hy), (fun k hk => by rw [HO.o] at hk; cases hk; exact ⟨rfl, rfl, rfl⟩)⟩
 ·have HO : Hid (Sc.parseX l = match Sc.linesR Sc.scr0 0 (yY 10 l) with | .ok x => .ok x | .error i => .error (20, i)) := qh (Sc.parse_small om)
  have hd : decide ((65536 : Int) < (l.length : Int)) = false := zo; have hl6 : l.length <= 65536 := om; have HLN := qh (wR 10 l); have HLL := qh (aT 10 l); have HWD := qh fun W => zAz 10 l hl W; have HZ0 : Hid ((prog.info? 69).map (·.size) = some (scA Sc.scr0 (.slice none 0 0)).size) := qh (by rw [qM scr0_z]; exact infoX); obtain ⟨Z, HZ⟩ : ∃ Z, Hid (Z = Sc.linesR Sc.scr0 0 (yY 10 l)) := ⟨_, qh rfl⟩; rw [← HZ.o] at HO; generalize Sc.parseX l = o at *; generalize yY 10 l = L at *; clear hbig hl
  go_enter func17, ntmps17
  go_wp2_with (first
   | (refine zQ (w := w) rfl 69 rf _ zDb ?_; intro w1 hw1; have HR1 : Hid (Blk w1 w.heap.size 69 (scA scrZ (.slice none 0 0))) := (by rw [hw1]; exact qh (Blk.new _ _ _)); have HB1 : Hid (zW w w1) := (by rw [hw1]; exact qh (yD w _)); have hz1 := HR1.o.lt; clear hw1)
   | (refine zQ (w := w1) rfl 69 rf _ zDb ?_; intro w2 hw2; have HX2 : Hid (Blk w2 w1.heap.size 69 (scA scrZ (.slice none 0 0))) := (by rw [hw2]; exact qh (Blk.new _ _ _)); have HB2 : Hid (zW w1 w2) := (by rw [hw2]; exact qh (yD w1 _)); clear hw2)
   | (refine zJ rfl 69 (.tmp 5) (.tmp 20) rf w1.heap.size (scA Sc.scr0 (.slice none 0 0)) rf rf _ _ HX2.o HZ0.o rfl (fB rfl) ?_; intro w3 hw3; have HX3 : Hid (Blk w3 w1.heap.size 69 (scA Sc.scr0 (.slice none 0 0))) := (by rw [hw3]; exact qh (HX2.o.setRow _)); have HB3 : Hid (zW w1 w3) := (by rw [hw3]; exact qh (below_setRow HB2.o zn _)); clear hw3))
  have HB4 : Hid (zW w w3) := qh (HB1.o.trans (HB3.o.mono (jI hz1))); refine (HWD.o _).mono ?_; rintro e w4 ⟨v4, rfl, ho4, hb5⟩; have hz3 := HX3.o.lt; have HB5 : Hid (zW w w4) := qh (HB4.o.trans (hb5.mono HB4.o.size)); have hz4 := hb5.size; obtain ⟨p4, c4, rfl⟩ := uG ho4; have hsl4 := SlP.of_owns vU ho4
  have HLB : Hid (∀ W, w4.grownBy W (some w1.heap.size) -> RdP W 1 encS p4 L) := qh fun W hg => by
   obtain ⟨p, c, e1, -, -, hR, -⟩ := hsl4.grown hg (fun b hb e => by cases e; omega); injection e1 with e1 e2 e3
   rw [e1]; exact hR
  have HRB : Hid (∀ W, w4.grownBy W (some w1.heap.size) -> Blk W w.heap.size 69 (scA scrZ (.slice none 0 0))) := qh fun W hg => ((HR1.o.below HB3.o hz1).below hb5 om).grownO hg zo; have HBB : Hid (∀ W, w4.grownBy W (some w1.heap.size) -> zW w W) := qh fun W hg => HB5.o.trans (jB hg HB5.o.size (jI hz1)); have HP0 : Hid (PrD w4 w1.heap.size L Z 0 Sc.scr0 [] (.slice none 0 0) w4) := qh ⟨⟨⟨HX3.o.below hb5 HX3.o.lt, scr0_z⟩, xL _ _ _ _, rfl, (fun s hs => by cases hs), (fun s hs => by cases hs), jM _ _, om, om⟩, by rw [xU]; exact HZ.o, zi⟩; have hLz : L.length <= 65537 := by have := HLN.o; omega
  clear hb5 HR1 HB1 HX2 HB2 HX3 HB3 HB4 HWD HZ hsl4 ho4; go_wp2_with fail
  go_loopw [7] (fun vi wr => ∃ (k : Nat) (x : Sc.Scr) (sts : List StV) (v : Value), vi = .int .i64 k /\ k <= L.length /\ Hid (PrD w4 w1.heap.size L Z k x sts v wr)) (fun vi _ => L.length - (intOf vi).toNat)
  case atStart => exact ⟨0, Sc.scr0, [], _, rfl, yQ _, HP0⟩
  case round =>
   obtain ⟨k, x, sts, v, rfl, hk, HU⟩ := hrel
   by_cases hlt : k < L.length
   ·obtain ⟨b, off, rfl, hbl, hcell⟩ := (HLB.o wr HU.o.S.gr).at hlt
    have hc := hcell 0 (.string (str L[k])) rfl; simp only [jN, xN] at hc; have HYL : Hid (L[k].length <= 65536) := qh (by have := HLL.o _ (yU hlt); omega); have HEQ : Hid (Z = if Sc.skipped L[k] = true then Sc.linesR x (k + 1) (L.drop (k + 1)) else match Sc.takeR x L[k] with | some y => Sc.linesR y (k + 1) (L.drop (k + 1)) | none => .error (k + 1)) := qh (by rw [HU.o.eq, yE hlt]; rfl)
    have HCY : Hid (∀ W, w4.grownBy W (some w1.heap.size) -> W.cell? ⟨b, off + k, none⟩ = some (.string (str L[k]))) := qh fun W hW => by
     obtain ⟨b', off', e', -, hcell'⟩ := (HLB.o W hW).at hlt
     cases e'
     have := hcell' 0 (.string (str L[k])) rfl
     simpa only [jN, xN] using this
    generalize L[k] = y at *; clear hcell
    by_cases hy0 : y = []
    ·subst hy0
     have HN : Hid (PrD w4 w1.heap.size L Z (k + 1) x sts v wr) := qh ⟨HU.o.S, HEQ.o, HU.o.n⟩; have htl0 := vX ([] : List UInt8); clear HEQ HYL
     go_wp2
     exact ⟨⟨k + 1, x, sts, v, by go_num, om, HN⟩, by simp [intOf]; omega⟩
    ·obtain ⟨c, r, hcr⟩ : ∃ c r, y = c :: r := by
      cases y with
      | nil => exact absurd rfl hy0
      | cons c r => exact ⟨c, r, rfl⟩
     have hpos : 0 < y.length := by rw [hcr]; simp
     have hem : y.isEmpty = false := by rw [hcr]; rfl
     have hg : ∀ h, (str y)[0]'h = c := fun h => by rw [jS]; simp [hcr]
     have hsy : (str y).size = y.length := zZ y; have hty := vX y; have HSK : Hid (Sc.skipped y = decide (c = 35)) := qh (by rw [hcr]; unfold Sc.skipped; simp); clear hcr hy0
     by_cases h35 : c = 35
     ·have HN : Hid (PrD w4 w1.heap.size L Z (k + 1) x sts v wr) := qh ⟨HU.o.S, by rw [HEQ.o, HSK.o, zN (by simpa using h35)], HU.o.n⟩
      have hcd : ((c.toNat : Int) == 35) = true := by rw [h35]; rfl
      clear HEQ HYL h35 HSK
      go_wp2
      exact ⟨⟨k + 1, x, sts, v, by go_num, om, HN⟩, by simp [intOf]; omega⟩
     ·have HEQ2 : Hid (Z = match Sc.takeR x y with | some y => Sc.linesR y (k + 1) (L.drop (k + 1)) | none => .error (k + 1)) := qh (by rw [HEQ.o, HSK.o, zH (by simpa using h35)])
      have hcd : ((c.toNat : Int) == 35) = false := by
       simp only [yF, qR]; exact fun e => h35 (uH.1 (by show c.toNat = 35; omega))
      have HSN := qh HU.o.n; have HWY := qh fun W => zAz 32 y (by have := HYL.o; omega) W; rw [zBy] at HWY; have hF := aU.spl HYL.o; have HRM := qh fun (W : World) v hv => r32_rooms (Hp.spl y) hF.1 hF.2.1 v W hv; have HSF := qh fun (W : World) v hv => r32_self (Hp.spl y) hF.1 hF.2.1 v W hv; have HON := qh fun W => r32_One y HYL.o W; have HTR : Hid (Sc.takeR x y = match Sc.roomsR (Hp.spl y) with | some r => some { x with r1 := r.1, r2 := r.2.1, r3 := r.2.2 } | none => match Sc.selfR (Hp.spl y) with | some a => some { x with four := a.1, six := a.2 } | none => match Sc.oneR y with | some t => if x.steps.length = 1000 then none else some { x with steps := x.steps ++ [t] } | none => none) := qh rfl; have HTN := qh fun y' (h : Sc.takeR x y = some y') => take_n h (by rw [← HU.o.S.st, yX]; exact HU.o.n); have HXL : Hid (x.steps.length = sts.length) := qh (by rw [← HU.o.S.st, yX]); generalize Sc.takeR x y = o2 at *; generalize Sc.roomsR (Hp.spl y) = rr at *; generalize Sc.selfR (Hp.spl y) = ss at *; generalize Sc.oneR y = oo at *
      have HTR2 : Hid (rr = none -> ss = none -> o2 = oo.bind fun t => if sts.length = 1000 then none else some { x with steps := x.steps ++ [t] }) := qh fun h1 h2 => by
       rw [HTR.o, h1, h2, HXL.o]
       cases oo <;> rfl
      clear HEQ HYL h35 HSK hF; have hXw := HU.o.S.at_.lt; go_wp2_with fail
      refine (HWY.o _).mono ?_; rintro e w5 ⟨v5, rfl, ho5, hb5⟩; have HS5 := qh (HU.o.S.next goodD hb5); have hz5 := hb5.size; have HV5 := qh (SlR.of_owns vU ho5); obtain ⟨p5, c5, rfl⟩ := uG ho5; clear hb5 ho5 hc; go_wp2_with fail
      refine (HRM.o _ _ HV5.o).mono ?_; rintro e w6 ⟨rv, rfl, hrv, hb6⟩; have HRV := qh hrv; have HS6 := qh (HS5.o.next goodD hb6); have HV6 := qh (HV5.o.below hb6 zn); have hz6 := hb6.size; clear hb6 hrv
      have HK6 : Hid (∀ wa wb, wa = w6.alloc (.cells (rmA (0, 0, 0)) 65) -> wb = wa.setRow w6.heap.size (rmA rv) -> Blk wb w6.heap.size 65 (rmA rv) /\ zW w6 wb /\ wb.heap.size = w6.heap.size + 1) := qh fun wa wb h1 h2 => by
       subst h1 h2; exact ⟨(Blk.new _ _ _).setRow _, below_setRow (yD _ _) zn _, by rw [World.setRow_alloc_new]; simp⟩
      go_wp2_with (first
       | (refine zQ (w := w6) rfl 65 rf _ zeroM3 ?_; intro w7 h7; have HE7 := qh h7; clear h7)
       | (refine zJ rfl _ (.tmp 9) (.tmp 50) rfl w6.heap.size (rmA rv) rf rf 65 (rmA (0, 0, 0)) (by rw [HE7.o]; exact Blk.new _ _ _) fT rfl (fJ _) ?_; intro w8 h8; have HK8 := qh (HK6.o w7 w8 HE7.o h8); have HS8 := qh (HS6.o.next goodD HK8.o.2.1); have HV8 := qh (HV6.o.below HK8.o.2.1 zn); clear h8))
      refine (HSF.o _ _ HV8.o).mono ?_; rintro e w9 ⟨a9, b9, ha9, hb9', rfl, hsv, hb9⟩; have HSV := qh hsv; have HS9 := qh (HS8.o.next goodD hb9); have HRM9 := qh (HK8.o.1.below hb9 HK8.o.1.lt); have hz9 := hb9.size; have HA4 := qh ha9; have HA16 := qh hb9'; have HI9 : Hid ((prog.info? 66).map (·.size) = some (slA a9 b9).size) := qh (by rw [bV HA4.o HA16.o]; exact infoM); have HZ9 : Hid ((slA z4 z16).size = (slA a9 b9).size) := qh (by rw [bV HA4.o HA16.o]; rfl); have HZ69 : Hid (w6.heap.size < w9.heap.size) := qh HRM9.o.lt; clear hb9 ha9 hb9' hsv
      have HK9 : Hid (∀ wa wb, wa = w9.alloc (.cells (slA z4 z16) 66) -> wb = wa.setRow w9.heap.size (slA a9 b9) -> Blk wb w9.heap.size 66 (slA a9 b9) /\ zW w9 wb) := qh fun wa wb h1 h2 => by
       subst h1 h2; exact ⟨(Blk.new _ _ _).setRow _, below_setRow (yD _ _) zn _⟩
      have HLX : Hid (∀ W, w4.grownBy W (some w1.heap.size) -> W.cell? ⟨b, off + k, none⟩ = some (.string (str y))) := HCY
      go_wp2_with (first
       | (refine zQ (w := w9) rfl 66 rf _ zeroM ?_; intro w10 h10; have HE10 := qh h10; clear h10)
       | (refine zJ rfl _ (.tmp 11) (.tmp 55) rfl w9.heap.size (slA a9 b9) rf rf 66 (slA z4 z16) (by rw [HE10.o]; exact Blk.new _ _ _) HI9.o HZ9.o (nG _ _) ?_; intro w11 h11; have HK11 := qh (HK9.o w10 w11 HE10.o h11); have HS11 := qh (HS9.o.next goodD HK11.o.2); have HRM11 := qh (HRM9.o.below HK11.o.2 HRM9.o.lt); have d0 := HLX.o w11 HS11.o.gr; clear h11))
      refine (HON.o _).mono ?_; rintro e w12 ⟨s', rfl, hst, hp16, hi', hb12⟩; have HS12 := qh (HS11.o.next goodD hb12); have HRM12 := qh (HRM11.o.below hb12 HRM11.o.lt); have HSL12 := qh (HK11.o.1.below hb12 HK11.o.1.lt); have hz12 := hb12.size; have HSt := qh hst; have HP16 := qh hp16; have HI12 : Hid (vG (fun b => w4.heap.size <= b /\ v.ownBlock ≠ some b) w12 s') := qh (hi'.imp fun b hb => ⟨yK HS11.o.gr.size hb, fun e => by have := nC HS11.o.own e; omega⟩); clear hst hp16 hi' hb12 d0
      have HK12 : Hid (∀ wa wb, wa = w12.alloc (.cells (zY (svD Sc.z)) 46) -> wb = wa.setRow w12.heap.size (zY s') -> Blk wb w12.heap.size 46 (zY s') /\ zW w12 wb) := qh fun wa wb h1 h2 => by
       subst h1 h2; exact ⟨(Blk.new _ _ _).setRow _, below_setRow (yD _ _) zn _⟩
      clear HS5 HS6 HS8 HS9 HV5 HV6 HV8 HRM9 HWY HON HU HE7 HE10
      go_upto_region 14 with (first
       | (refine zQ (w := w12) rfl 46 rf _ zAi ?_; intro w13 h13; have HE13 := qh h13; clear h13)
       | (refine zJ rfl 46 (.tmp 13) (.tmp 63) rf w12.heap.size (zY s') rf rf 46 (zY (svD Sc.z)) (by rw [HE13.o]; exact Blk.new _ _ _) (by rw [zO]; exact kZ) (by rw [zO, zO]) HI12.o.one ?_; intro w14 h14; have HK14 := qh (HK12.o w13 w14 HE13.o h14); have HS14 := qh (HS12.o.next goodD HK14.o.2); have HRM14 := qh (HRM12.o.below HK14.o.2 HRM12.o.lt); have HSL14 := qh (HSL12.o.below HK14.o.2 HSL12.o.lt); have HI14 := qh (goodD.below HI12.o HK14.o.2); clear h14))
      clear HS11 HS12 HRM11 HRM12 HSL12 HI12
      cases rr with
      |some r =>
       have HOK : Hid (o2 = some { x with r1 := rv.1, r2 := rv.2.1, r3 := rv.2.2 }) := qh (by rw [HTR.o, HRV.o r rfl]); clear HTR HRV HSV
       go_wp2_with (first
        | (refine yI rf 65 (.tmp 9) rf w6.heap.size rf _ (rmA rv) (0, 0) _ HRM14.o underlying65 rfl fT ?_)
        | (refine jG (fun W' => Hid (ScS 69 46 vG (fun b => w4.heap.size <= b) w4 w1.heap.size { x with r1 := rv.1, r2 := rv.2.1, r3 := rv.2.2 } sts v W')) rfl _ _ _ rfl w1.heap.size 0 (rmA rv) rf rf (HS14.o.at_.th (by show 0 + 3 <= 24; decide)) fT (fJ _) (qh (HS14.o.set goodD (fI _ _ _ _) (HS14.o.at_.setRm rv) rfl)) ?_; intro w15 H15))
       exact ⟨⟨k + 1, _, sts, v, by go_num, om, qh ⟨H15.o, by rw [HEQ2.o, HOK.o], HSN.o⟩⟩, by simp [intOf]; omega⟩
      |none =>
       cases ss with
       |some r =>
        have HOK : Hid (o2 = some { x with four := a9, six := b9 }) := qh (by rw [HTR.o, HSV.o r rfl]); clear HTR HRV HSV
        go_wp2_with (first
         | (refine yI rf 66 (.tmp 11) rf w9.heap.size rf _ (slA a9 b9) (0, 0) _ HSL14.o underlying66 rfl HI9.o ?_)
         | (refine jG (fun W' => Hid (ScS 69 46 vG (fun b => w4.heap.size <= b) w4 w1.heap.size { x with four := a9, six := b9 } sts v W')) rfl _ _ _ rfl w1.heap.size 3 (slA a9 b9) rf rf (HS14.o.at_.th (by rw [bV HA4.o HA16.o]; decide)) HI9.o (nG _ _) (qh (HS14.o.set goodD (fI _ _ _ _) (HS14.o.at_.setSl HA4.o HA16.o) rfl)) ?_; intro w15 H15))
        exact ⟨⟨k + 1, _, sts, v, by go_num, om, qh ⟨H15.o, by rw [HEQ2.o, HOK.o], HSN.o⟩⟩, by simp [intOf]; omega⟩
       |none =>
        have HTR3 := qh (HTR2.o rfl rfl); clear HTR HTR2 HRV HSV HXL; have HSN2 := HSN.o; obtain ⟨pv, kv, hvf⟩ := uG HS14.o.own; have c23 := HS14.o.at_.c23; rw [hvf] at c23; have HRB14 := qh (HRB.o w14 HS14.o.gr); have HBB14 := qh (HBB.o w14 HS14.o.gr)
        cases oo with
        |none =>
         have HER : Hid (o = .error (20, k + 1)) := qh (by rw [HO.o, HEQ2.o, HTR3.o]; rfl)
         go_wp2_with (refine zJ rfl 69 (.tmp 2) (.tmp 65) rf w.heap.size (scA scrZ (.slice none 0 0)) rf rf _ _ HRB14.o HZZ.o rfl (fB rfl) ?_; intro w16 hw16; have HR16 : Hid (Blk w16 w.heap.size 69 (scA scrZ (.slice none 0 0))) := (by rw [hw16]; exact qh (HRB14.o.setRow _)); have HB16 : Hid (zW w w16) := (by rw [hw16]; exact qh (below_setRow HBB14.o zn _)); clear hw16)
         exact zC (jK rfl _ _ _ _ _ _ _ rfl HR16.o underlying69 rfl HZZ.o) rfl ⟨scrZ, [], _, 20, k + 1, rfl, ScIn.nil lI rfl, HB16.o, (fun y hy => by rw [HER.o] at hy; cases hy), (fun k hk => by rw [HER.o] at hk; cases hk; exact ⟨rfl, rfl, rfl⟩)⟩
        |some t =>
         by_cases hfull : sts.length = 1000
         ·have HER : Hid (o = .error (20, k + 1)) := qh (by rw [HO.o, HEQ2.o, HTR3.o]; simp [hfull])
          have hd1 : decide ((sts.length : Int) < 1000) = false := by rw [hfull]; rfl
          have hd2 : ¬ sts.length < 1000 := om; clear hfull HTR3
          go_wp2_with (refine zJ rfl 69 (.tmp 2) (.tmp 65) rf w.heap.size (scA scrZ (.slice none 0 0)) rf rf _ _ HRB14.o HZZ.o rfl (fB rfl) ?_; intro w16 hw16; have HR16 : Hid (Blk w16 w.heap.size 69 (scA scrZ (.slice none 0 0))) := (by rw [hw16]; exact qh (HRB14.o.setRow _)); have HB16 : Hid (zW w w16) := (by rw [hw16]; exact qh (below_setRow HBB14.o zn _)); clear hw16)
          exact zC (jK rfl _ _ _ _ _ _ _ rfl HR16.o underlying69 rfl HZZ.o) rfl ⟨scrZ, [], _, 20, k + 1, rfl, ScIn.nil lI rfl, HB16.o, (fun y hy => by rw [HER.o] at hy; cases hy), (fun k hk => by rw [HER.o] at hk; cases hk; exact ⟨rfl, rfl, rfl⟩)⟩
         ·have HT : Hid (s'.t = t) := qh HSt.o
          have HOK : Hid (o2 = some { x with steps := x.steps ++ [t] }) := qh (by rw [HTR3.o]; simp [hfull]); have hd1 : decide ((sts.length : Int) < 1000) = true := zV om; have hd2 : sts.length < 1000 := om; clear hfull HTR3; subst hvf
          go_wp2_with (first
           | (refine yI rf 46 (.tmp 13) rf w12.heap.size rf _ (zY s') (0, 0) _ HK14.o.1 underlying46 rfl (by rw [zO]; exact kZ) ?_)
           | (refine wpList_build1 rfl 67 46 (.tmp 86) rfl (zY s') rf 36 (zO s') zd zd underlying67 kZ infoTZ ?_; intro w15 h15; have HE15 := qh h15; have HS15 := qh (HS14.o.next goodD (h15 ▸ yD w14 _)); have HI15 := qh (goodD.below HI14.o (h15 ▸ yD w14 _)); clear h15)
           | (refine wpList_app_big rfl elemT (.tmp 85) (.tmp 87) rfl w4.heap.size (.slice pv sts.length kv) sts.length _ rf HS15.o.own ⟨w14.heap.size, 0, none⟩ 1 1 (uC s') rf (kX s') (by rw [HE15.o]; exact pI w14 (uC s') _ _ rfl) (step_cells HI15.o.one) om HS15.o.gr.size ?_; intro v16 w16 hown hgr hob; obtain ⟨p16, k16, rfl⟩ := uG hown; have HN := qh (HS15.o.app goodD HI15.o HP16.o hown hgr hob); have g4 := (HS15.o.at_.grown hgr (aS HS15.o.own HS15.o.XW)).c23; have f4 := (HS15.o.at_.grown hgr (aS HS15.o.own HS15.o.XW)).fz 23; clear hown hgr hob))
          exact ⟨⟨k + 1, { x with steps := x.steps ++ [s'.t] }, sts ++ [s'], _, by go_num, om, qh ⟨HN.o, by rw [HEQ2.o, HOK.o, HT.o], zo⟩⟩, by simp [intOf]; omega⟩
   ·obtain rfl : k = L.length := om
    have HOK : Hid (o = .ok x) := qh (by rw [HO.o, HU.o.eq, qO]; rfl); have HRB5 := qh (HRB.o wr HU.o.S.gr); have HBB5 := qh (HBB.o wr HU.o.S.gr); have HZX : Hid ((prog.info? 69).map (·.size) = some (scA x v).size) := qh (by rw [qM HU.o.S.at_.z]; exact infoX); have HZE : Hid ((scA scrZ (.slice none 0 0)).size = (scA x v).size) := qh (by rw [qM HU.o.S.at_.z]; rfl); have HVO : Hid (v.oneCell' = true) := qh (by obtain ⟨p, c, rfl⟩ := uG HU.o.S.own; rfl)
    go_wp2_with (first
     | (refine yI rf 69 (.tmp 5) rf w1.heap.size rf _ (scA x v) (0, 0) _ HU.o.S.at_.b underlying69 rfl HZX.o ?_)
     | (refine zJ rfl 69 (.tmp 2) (.tmp 90) rf w.heap.size (scA x v) rf rf _ _ HRB5.o HZX.o HZE.o (fB HVO.o) ?_; intro w6 hw6; have HR6 : Hid (Blk w6 w.heap.size 69 (scA x v)) := (by rw [hw6]; exact qh (HRB5.o.setRow _)); have HB6 : Hid (zW w w6) := (by rw [hw6]; exact qh (below_setRow HBB5.o zn _)); have HG6 : Hid (wr.grownBy w6 (some w.heap.size)) := (by rw [hw6]; exact qh (uV _ _ _)); clear hw6))
    have HIN : Hid (ScIn vG w6 x sts v) := qh ⟨HU.o.S.at_.z, HU.o.S.st, SlR.of_owns kX (mO HU.o.S.own HG6.o (fun k e => by cases e; omega)), (fun s hs => (goodD.grown (HU.o.S.inn s hs) HG6.o (fun b hb e => by cases e; have := hb.1; omega)).imp fun _ _ => trivial), HU.o.S.p16⟩; exact zC (jK rfl _ _ _ _ _ _ _ rfl HR6.o underlying69 rfl HZX.o) rfl ⟨x, sts, v, 0, 0, rfl, HIN.o, HB6.o, (fun y hy => by rw [HOK.o] at hy; cases hy; exact ⟨rfl, rfl, rfl⟩), (fun k hk => by rw [HOK.o] at hk; cases hk)⟩
end Go.Proofs.YtdbgeobolongmaaGreatDoor
