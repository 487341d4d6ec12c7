/- Part of the proof: ScriptLines, ScriptParses, ScriptShows. -/
import Derived.Test.YtdbgeobolongmaaGreatDoorSA36
import Derived.Test.YtdbgeobolongmaaGreatDoorSA41
set_option linter.unusedVariables false
set_option linter.unusedSimpArgs false
set_option maxRecDepth 100000
set_option maxHeartbeats 4000000
namespace Go.Proofs.YtdbgeobolongmaaGreatDoor
open Go.RowKit Go.Shelf Go.Proofs Go.OctetPlain Go.PrefixPlain Go.Proofs.Tryz
def SzD (s : StV) : Prop := s.t.hop.labels.length <= 1073741824 /\ s.t.hop.repair.length <= 1073741824 /\ s.t.ways.length <= 1073741824
structure SmX (w : World) (x y : Sc.Scr) (sa sb : List StV) (va vb : Value) (W : World) : Prop where
 A : ScAt 69 W w.heap.size x va
 B : ScAt 69 W (w.heap.size + 1) y vb
 bel : zW w W
 IA : ScIn vG W x sa va
 IB : ScIn vG W y sb vb
theorem SmX.next {w W W' : World} {x y : Sc.Scr} {sa sb : List StV} {va vb : Value} (h : SmX w x y sa sb va vb W) (hb : zW W W') : SmX w x y sa sb va vb W' := ⟨h.A.next hb, h.B.next hb, h.bel.trans (hb.mono h.bel.size), h.IA.below goodD hb, h.IB.below goodD hb⟩
theorem RdP.range {α : Type} {w : World} {k : Nat} {enc : α -> List Value} {p : Option Addr} {xs : List α} (h : RdP w k enc p xs) {i : Nat} (hi : i < xs.length) : ∃ b off, p = some ⟨b, off, none⟩ /\ w.rangeAt b (off + i * k) (enc xs[i]) := by
 obtain ⟨b, off, h1, -, h2⟩ := h.at hi; exact ⟨b, off, h1, fun j v hv => h2 j v hv⟩
theorem SmX.ra {w W : World} {x y : Sc.Scr} {sa sb : List StV} {va vb : Value} (h : SmX w x y sa sb va vb W) {p : Option Addr} {n c : Nat} (hv : va = .slice p n c) : RdP W 36 uC p sa := by
 obtain ⟨q, d, e, -, -, hp⟩ := h.IA.sl; rw [hv] at e; cases e; exact hp
theorem SmX.rb {w W : World} {x y : Sc.Scr} {sa sb : List StV} {va vb : Value} (h : SmX w x y sa sb va vb W) {p : Option Addr} {n c : Nat} (hv : vb = .slice p n c) : RdP W 36 uC p sb := by
 obtain ⟨q, d, e, -, -, hp⟩ := h.IB.sl; rw [hv] at e; cases e; exact hp
theorem infoTL (s : StV) : (prog.info? 46).map (·.size) = some (uC s).length := by rw [kX]; exact kZ
theorem scr_eq {x y : Sc.Scr} {sa sb : List StV} (ha : sa.map (·.t) = x.steps) (hb : sb.map (·.t) = y.steps) : x = y ↔ ((x.r1, x.r2, x.r3) = (y.r1, y.r2, y.r3) /\ (x.four, x.six) = (y.four, y.six)) /\ sa.map (·.t) = sb.map (·.t) := by
 rw [ha, hb]
 cases x; cases y
 simp only [Sc.Scr.mk.injEq, rZ]
 constructor
 ·rintro ⟨h1, h2, h3, h4, h5, h6⟩; exact ⟨⟨⟨h1, h2, h3⟩, h4, h5⟩, h6⟩
 ·rintro ⟨⟨⟨h1, h2, h3⟩, h4, h5⟩, h6⟩; exact ⟨h1, h2, h3, h4, h5, h6⟩
theorem infoSlM {a b : List UInt8} (ha : a.length = 4) (hb : b.length = 16) : (prog.info? 66).map (·.size) = some (slA a b).toList.length := by rw [bK, bV ha hb]; exact infoM
theorem xV {P : Program} {ops : Array Oper} {rest : List Oper} {op : Oper} {a : Act} {w : World} {Q : Exit -> Act -> World -> Prop} (ty : TypeId) (x : Operand) (ho : op.op = .load ty x) (hw : Region.wanted op (yielded ops a.tmps) = true)
  (b o : Nat) (hx : a.eval x = .pointer (some ⟨b, o, none⟩)) (cs : List Value) (d : TypeDesc) (hc : w.rangeAt b o cs)
  (hu : P.underlying ty = some d) (hd : d.isRow = true) (hi : (P.info? ty).map (·.size) = some cs.length)
  (h : wpList P ops Q rest (a.put op.dst (.agg cs.toArray)) w) : wpList P ops Q (op :: rest) a w :=
 mE hw fun _ hK => wp_load_mid ty x ho b o hx cs d hc hu hd hi (hK _ _ h)
theorem r32_Same (x y : Sc.Scr) (sa sb : List StV) (va vb : Value) (w : World) (A : ScIn vG w x sa va) (B : ScIn vG w y sb vb) (ha : ∀ s ∈ sa, SzD s) (hb : ∀ s ∈ sb, SzD s) (na : sa.length <= 1073741824) (nb : sb.length <= 1073741824) :
  zCB 18 #[.agg (scA x va), .agg (scA y vb)] w (.bool (decide (x = y))) := by
 have HS0 : Hid (∀ w1 w2, w1 = w.alloc (.cells (scA x va) 69) -> w2 = w1.alloc (.cells (scA y vb) 69) -> SmX w x y sa sb va vb w2) := qh fun w1 w2 h1 h2 => by
  subst h2; subst h1; have hB : zW w ((w.alloc (.cells (scA x va) 69)).alloc (.cells (scA y vb) 69)) := (yD w _).alloc zi _; refine ⟨⟨(Blk.new w _ _).alloc _, A.z⟩, ⟨?_, B.z⟩, hB, A.below goodD hB, B.below goodD hB⟩; have := Blk.new (w.alloc (.cells (scA x va) 69)) 69 (scA y vb); rw [xG] at this; exact this
 obtain ⟨v, HV⟩ : ∃ v, Hid (v = decide (x = y)) := ⟨_, qh rfl⟩; have HEQ := qh (scr_eq A.st B.st); obtain ⟨pa, ca, hva, -⟩ := A.sl; obtain ⟨pb, cb, hvb, -⟩ := B.sl; have HVA := qh hva; have HVB := qh hvb; rw [← HV.o]; have HRA := qh fun W (h : SmX w x y sa sb va vb W) => h.A.rm; have HRB := qh fun W (h : SmX w x y sa sb va vb W) => h.B.rm; have HSA := qh fun W (h : SmX w x y sa sb va vb W) => h.A.sl; have HSB := qh fun W (h : SmX w x y sa sb va vb W) => h.B.sl; have hq := fun w => run_rmM (x.r1, x.r2, x.r3) (y.r1, y.r2, y.r3) w; have hg := fun w op a b => GuardAt.agg (P := prog) (T := 65) (fun c : Array Value => c) kf op a b (rmA (x.r1, x.r2, x.r3)) (rmA (y.r1, y.r2, y.r3)) w; have hqs := fun w => eq_slM A.z.four A.z.six B.z.four B.z.six w; have hgs := fun w op a b => GuardAt.agg (P := prog) (T := 66) (fun c : Array Value => c) kf op a b (slA x.four x.six) (slA y.four y.six) w; have HIA : Hid ((prog.info? 65).map (·.size) = some (rmA (x.r1, x.r2, x.r3)).toList.length) := qh fT; have HIB : Hid ((prog.info? 65).map (·.size) = some (rmA (y.r1, y.r2, y.r3)).toList.length) := qh fT; have HJA := qh (infoSlM A.z.four A.z.six); have HJB := qh (infoSlM B.z.four B.z.six); generalize rmA (x.r1, x.r2, x.r3) = RA at *; generalize rmA (y.r1, y.r2, y.r3) = RB at *; generalize slA x.four x.six = SA at *; generalize slA y.four y.six = SB at *; clear A B hva hvb
 by_cases e1 : (x.r1, x.r2, x.r3) = (y.r1, y.r2, y.r3)
 ·rw [zV e1] at hq
  have E1 := qh e1; clear e1
  by_cases e2 : (x.four, x.six) = (y.four, y.six)
  ·rw [zV e2] at hqs
   have E2 := qh e2; clear e2
   by_cases e3 : sa.length = sb.length
   ·have hd : ((sa.length : Int) != (sb.length : Int)) = false := by simp only [bne_eq_false_iff_eq]; omega
    have HLE := qh e3; clear e3
    go_enter func18, ntmps18
    go_upto_region 1 with (first
     | (refine yS (w := w) rfl _ (.tmp 0) rf (scA x va) rf ?_; intro w1 E1; have HE1 := qh E1; clear E1)
     | (refine yS (w := w1) rfl _ (.tmp 1) rf (scA y vb) rf ?_; intro w2 E2; have HS := qh (HS0.o w1 w2 HE1.o E2); clear E2; have c1 := HS.o.A.c23; have c2 := HS.o.B.c23; rw [HVA.o] at c1; rw [HVB.o] at c2; have HZ1 : w1.heap.size = w.heap.size + 1 := (by rw [HE1.o]; simp)))
    refine jD ?_
    iterate 3 go_step
    refine vF rfl 65 (.tmp 7) rf w.heap.size 0 rf RA.toList _ (HRA.o _ HS.o) underlying65 rfl HIA.o ?_; simp only [qA, qB, qC, qD, qE, qF, qG]
    iterate 3 go_step
    refine vF rfl 65 (.tmp 9) rf (w.heap.size + 1) 0 rf RB.toList _ (HRB.o _ HS.o) underlying65 rfl HIB.o ?_; simp only [qA, qB, qC, qD, qE, qF, qG]
    iterate 5 go_step
    iterate 3 go_step
    refine xV 66 (.tmp 13) rf rf w.heap.size 3 rf SA.toList _ (HSA.o _ HS.o) underlying66 rfl HJA.o ?_; simp only [qA, qB, qC, qD, qE, qF, qG]
    iterate 2 go_step
    refine xV 66 (.tmp 15) rf rf (w.heap.size + 1) 3 rf SB.toList _ (HSB.o _ HS.o) underlying66 rfl HJB.o ?_; simp only [qA, qB, qC, qD, qE, qF, qG]
    iterate 7 go_step
    go_step
    go_wp2_with fail
    go_loopw [5] (fun vi wr => ∃ k : Nat, vi = .int .i64 k /\ k <= sa.length /\ Hid ((sa.take k).map (·.t) = (sb.take k).map (·.t)) /\ Hid (SmX w x y sa sb va vb wr)) (fun vi _ => sa.length - (intOf vi).toNat)
    case atStart => exact ⟨0, rfl, yQ _, qh rfl, qh HS.o⟩
    case round =>
     clear HS; obtain ⟨k, rfl, hk, HE, HS⟩ := hrel; have c1 := HS.o.A.c23; rw [HVA.o] at c1
     by_cases hlt : k < sa.length
     ·have hlt2 : k < sb.length := by rw [← HLE.o]; exact hlt
      obtain ⟨b1, o1, hb1, x0⟩ := (HS.o.ra HVA.o).range hlt; obtain ⟨b2, o2, hb2, y0⟩ := (HS.o.rb HVB.o).range hlt2; subst hb1 hb2
      have HC : Hid (∀ W, SmX w x y sa sb va vb W -> W.rangeAt b1 (o1 + k * 36) (uC sa[k]) /\ W.rangeAt b2 (o2 + k * 36) (uC sb[k])) := qh fun W h => by
       obtain ⟨g1, f1, e1, u0⟩ := (h.ra HVA.o).range hlt; obtain ⟨g2, f2, e2, v0⟩ := (h.rb HVB.o).range hlt2
       cases e1; cases e2
       exact ⟨u0, v0⟩
      have HCALL : Hid (∀ W, SmX w x y sa sb va vb W -> zCB 12 #[.agg (uC sa[k]).toArray, .agg (uC sb[k]).toArray] W (.bool (decide (sa[k].t = sb[k].t)))) := qh fun W h =>
       pW sa[k] sb[k] W (h.IA.inn _ (yU _)) (h.IB.inn _ (yU _)) (h.IA.p16 _ (yU _)) (h.IB.p16 _ (yU _)) (ha _ (yU _)).1 (ha _ (yU _)).2.1 (ha _ (yU _)).2.2 (hb _ (yU _)).1 (hb _ (yU _)).2.1 (hb _ (yU _)).2.2
      have HTA : Hid ((sa.take (k + 1)).map (·.t) = (sa.take k).map (·.t) ++ [sa[k].t]) := qh (by rw [yA hlt, jT]; rfl); have HTB : Hid ((sb.take (k + 1)).map (·.t) = (sb.take k).map (·.t) ++ [sb[k].t]) := qh (by rw [yA hlt2, jT]; rfl); have HGA : Hid ((sa.map (·.t))[k]? = some sa[k].t) := qh (by rw [jL, zA hlt]; rfl); have HGB : Hid ((sb.map (·.t))[k]? = some sb[k].t) := qh (by rw [jL, zA hlt2]; rfl); have HI1 := qh (infoTL sa[k]); have HI2 := qh (infoTL sb[k]); clear x0 y0; generalize sa[k] = p at *; generalize sb[k] = q at *; generalize hv : decide (p.t = q.t) = b at *; have HVV := qh hv; clear hv; generalize hL1 : uC p = L1 at *; generalize hL2 : uC q = L2 at *; clear hL1 hL2; have HD : Hid (SmX w x y sa sb va vb wr.drew) := qh (HS.o.next (zb.drew))
      go_upto_region 6 with fail
      refine yB (S := SmX w x y sa sb va vb) kf HD.o (fun hHeld => ?_); refine kq 0 ?_; refine kq 1 ?_ (hy := by intro w h; have c := h.A.c23; rw [HVA.o] at c; go_simp; try with_reducible rfl); refine kq 2 ?_; refine kq 3 ?_; refine kY 4 rfl (qY rf _ _ rfl (b1) (o1 + k * 36) rfl (L1) _ (fun w h => (HC.o w h).1) underlying46 rfl (HI1.o)) ?_; refine kq 5 ?_; refine kq 6 ?_ (hy := by intro w h; have c := h.B.c23; rw [HVB.o] at c; go_simp; try with_reducible rfl); refine kq 7 ?_; refine kq 8 ?_; refine kY 9 rfl (qY rf _ _ rfl (b2) (o2 + k * 36) rfl (L2) _ (fun w h => (HC.o w h).2) underlying46 rfl (HI2.o)) ?_; refine zS 10 fun K hK => ?_; go_simp; refine zT (HCALL.o _ hHeld) fun w9 hb9 => ?_; have HV9 := hHeld.next hb9; go_wp2_with fail
      refine zK hK (HV9) fun hHeld => ?_; clear hK K; refine kq 11 ?_; refine zD ?_
      cases b with
      |true =>
       have HE2 : Hid ((sa.take (k + 1)).map (·.t) = (sb.take (k + 1)).map (·.t)) := qh (by rw [HTA.o, HTB.o, HE.o, kV HVV.o]); have HS2 := qh hHeld
       go_wp2
       exact ⟨⟨k + 1, by go_num, om, HE2, HS2⟩, by simp [intOf]; omega⟩
      |false =>
       have HF : Hid (v = false) := qh (by
        rw [HV.o]; refine zM fun e => ?_; have e9 := (HEQ.o.1 e).2; have := HGA.o.symm.trans ((yG (·[k]?) e9).trans HGB.o); exact of_decide_eq_false HVV.o (vW this))
       have HS2 := qh hHeld
       go_wp2
       go_ret
       exact ⟨by rw [HF.o]; rfl, HS2.o.bel⟩
     ·obtain rfl : k = sa.length := om
      have HT : Hid (v = true) := qh (by
       rw [HV.o]; have h9 := HE.o; rw [xK, HLE.o, xK] at h9; exact zV (HEQ.o.2 ⟨⟨E1.o, E2.o⟩, h9⟩))
      go_wp2
      go_ret
      exact ⟨by rw [HT.o]; rfl, HS.o.bel⟩
   ·have hd : ((sa.length : Int) != (sb.length : Int)) = true := by simp only [jZ, qR]; omega
    have HF : Hid (v = false) := qh (by rw [HV.o]; exact zM fun h => e3 (by have := yG List.length (HEQ.o.1 h).2; simpa using this)); clear e3
    go_enter func18, ntmps18
    go_upto_region 1 with (first
     | (refine yS (w := w) rfl _ (.tmp 0) rf (scA x va) rf ?_; intro w1 E1; have HE1 := qh E1; clear E1)
     | (refine yS (w := w1) rfl _ (.tmp 1) rf (scA y vb) rf ?_; intro w2 E2; have HS := qh (HS0.o w1 w2 HE1.o E2); clear E2; have c1 := HS.o.A.c23; have c2 := HS.o.B.c23; rw [HVA.o] at c1; rw [HVB.o] at c2; have HZ1 : w1.heap.size = w.heap.size + 1 := (by rw [HE1.o]; simp)))
    refine jD ?_
    iterate 3 go_step
    refine vF rfl 65 (.tmp 7) rf w.heap.size 0 rf RA.toList _ (HRA.o _ HS.o) underlying65 rfl HIA.o ?_; simp only [qA, qB, qC, qD, qE, qF, qG]
    iterate 3 go_step
    refine vF rfl 65 (.tmp 9) rf (w.heap.size + 1) 0 rf RB.toList _ (HRB.o _ HS.o) underlying65 rfl HIB.o ?_; simp only [qA, qB, qC, qD, qE, qF, qG]
    iterate 5 go_step
    iterate 3 go_step
    refine xV 66 (.tmp 13) rf rf w.heap.size 3 rf SA.toList _ (HSA.o _ HS.o) underlying66 rfl HJA.o ?_; simp only [qA, qB, qC, qD, qE, qF, qG]
    iterate 2 go_step
    refine xV 66 (.tmp 15) rf rf (w.heap.size + 1) 3 rf SB.toList _ (HSB.o _ HS.o) underlying66 rfl HJB.o ?_; simp only [qA, qB, qC, qD, qE, qF, qG]
    iterate 7 go_step
    go_step
    go_wp2
    go_ret
    exact ⟨by rw [HF.o]; rfl, HS.o.bel⟩
  ·rw [zM e2] at hqs
   have HF : Hid (v = false) := qh (by rw [HV.o]; exact zM fun h => e2 (HEQ.o.1 h).1.2); clear e2
   go_enter func18, ntmps18
   go_upto_region 1 with (first
    | (refine yS (w := w) rfl _ (.tmp 0) rf (scA x va) rf ?_; intro w1 E1; have HE1 := qh E1; clear E1)
    | (refine yS (w := w1) rfl _ (.tmp 1) rf (scA y vb) rf ?_; intro w2 E2; have HS := qh (HS0.o w1 w2 HE1.o E2); clear E2; have c1 := HS.o.A.c23; have c2 := HS.o.B.c23; rw [HVA.o] at c1; rw [HVB.o] at c2; have HZ1 : w1.heap.size = w.heap.size + 1 := (by rw [HE1.o]; simp)))
   refine jD ?_
   iterate 3 go_step
   refine vF rfl 65 (.tmp 7) rf w.heap.size 0 rf RA.toList _ (HRA.o _ HS.o) underlying65 rfl HIA.o ?_; simp only [qA, qB, qC, qD, qE, qF, qG]
   iterate 3 go_step
   refine vF rfl 65 (.tmp 9) rf (w.heap.size + 1) 0 rf RB.toList _ (HRB.o _ HS.o) underlying65 rfl HIB.o ?_; simp only [qA, qB, qC, qD, qE, qF, qG]
   iterate 5 go_step
   iterate 3 go_step
   refine xV 66 (.tmp 13) rf rf w.heap.size 3 rf SA.toList _ (HSA.o _ HS.o) underlying66 rfl HJA.o ?_; simp only [qA, qB, qC, qD, qE, qF, qG]
   iterate 2 go_step
   refine xV 66 (.tmp 15) rf rf (w.heap.size + 1) 3 rf SB.toList _ (HSB.o _ HS.o) underlying66 rfl HJB.o ?_; simp only [qA, qB, qC, qD, qE, qF, qG]
   iterate 7 go_step
   generalize hA : (Act.mk _ _ : Act) = A; rename_i K hK; refine hK A _ ?_; clear hK K
   iterate 7 (refine aH (by rw [← hA]; kernel_rfl) (by rw [← hA]; kernel_rfl) ?_)
   subst hA
   go_wp2
   go_ret
   exact ⟨by rw [HF.o]; rfl, HS.o.bel⟩
 ·rw [zM e1] at hq
  have HF : Hid (v = false) := qh (by rw [HV.o]; exact zM fun h => e1 (HEQ.o.1 h).1.1); clear e1
  go_enter func18, ntmps18
  go_upto_region 1 with (first
   | (refine yS (w := w) rfl _ (.tmp 0) rf (scA x va) rf ?_; intro w1 E1; have HE1 := qh E1; clear E1)
   | (refine yS (w := w1) rfl _ (.tmp 1) rf (scA y vb) rf ?_; intro w2 E2; have HS := qh (HS0.o w1 w2 HE1.o E2); clear E2; have c1 := HS.o.A.c23; have c2 := HS.o.B.c23; rw [HVA.o] at c1; rw [HVB.o] at c2; have HZ1 : w1.heap.size = w.heap.size + 1 := (by rw [HE1.o]; simp)))
  refine jD ?_
  iterate 3 go_step
  refine vF rfl 65 (.tmp 7) rf w.heap.size 0 rf RA.toList _ (HRA.o _ HS.o) underlying65 rfl HIA.o ?_; simp only [qA, qB, qC, qD, qE, qF, qG]
  iterate 3 go_step
  refine vF rfl 65 (.tmp 9) rf (w.heap.size + 1) 0 rf RB.toList _ (HRB.o _ HS.o) underlying65 rfl HIB.o ?_; simp only [qA, qB, qC, qD, qE, qF, qG]
  iterate 5 go_step
  generalize hA : (Act.mk _ _ : Act) = A; rename_i K hK; refine hK A _ ?_; clear hK K
  iterate 5 (refine aH (by rw [← hA]; kernel_rfl) (by rw [← hA]; kernel_rfl) ?_)
  subst hA
  iterate 5 go_step
  generalize hA : (Act.mk _ _ : Act) = A; rename_i K hK; refine hK A _ ?_; clear hK K
  iterate 7 (refine aH (by rw [← hA]; kernel_rfl) (by rw [← hA]; kernel_rfl) ?_)
  subst hA
  go_wp2
  go_ret
  exact ⟨by rw [HF.o]; rfl, HS.o.bel⟩
def svS (s : StV) : StV := { s with vb := .string (str s.t.bytes) }
theorem svS_t (s : StV) : (svS s).t = s.t := rfl
theorem fH {P : Program} {ops : Array Oper} {rest : List Oper} {o : Oper} {a : Act} {w : World} {Q : Exit -> Act -> World -> Prop} (hg : o.guard = none) (t : TypeId) (parts : Array (Nat × Operand)) (ho : o.op = .build t parts)
  (pl : List (Nat × Operand)) (hp : parts.toList = pl) (cells : Array Value) (hf : P.built t (pl.map fun (i, x) => (i, a.eval x)) = some cells)
  (h : wpList P ops Q rest (a.put o.dst (.agg cells)) w) : wpList P ops Q (o :: rest) a w := by
 have hf' : P.built t (parts.map fun (i, x) => (i, a.eval x)).toList = some cells := by rw [Array.toList_map, hp]; exact hf
 exact wpList_build hg t parts ho (by rw [hf']; rfl) (by rw [hf']; exact h)
structure OBk (t : TypeId) (w : World) (X : Nat) (s : StV) : Prop where
 b : Blk w X t (oA s)
namespace OBk
variable {t : TypeId} {w : World} {X : Nat} {s : StV}
theorem pre (h : OBk t w X s) : w.rangeAt X 0 (oPre s.t) := by
 have hb := h.b; unfold oA at hb; exact Blk.rng (A := []) hb rfl
theorem sp (h : OBk t w X s) : w.rangeAt X 4 (oSp s.t) := by
 have hb := h.b; unfold oA at hb; exact hb.rng rfl
theorem pf (h : OBk t w X s) : w.rangeAt X 6 (pfL s.t.pf) := by
 have hb := h.b; unfold oA at hb; rw [OAt.e6] at hb; exact hb.rng (OAt.l6 _).symm
theorem hop (h : OBk t w X s) : w.rangeAt X 24 (hopL s.t.hop s.vl s.vr) := by
 have hb := h.b; unfold oA at hb; rw [OAt.e24] at hb; exact hb.rng (OAt.l24 _).symm
theorem vw (h : OBk t w X s) : w.rangeAt X 30 [s.vw] := by
 have hb := h.b; unfold oA at hb; rw [OAt.e30] at hb; exact hb.rng (OAt.l30 _).symm
theorem tx (h : OBk t w X s) : w.rangeAt X 31 [.string (str s.t.text)] := by
 have hb := h.b; unfold oA at hb; rw [OAt.e31] at hb; exact hb.rng (OAt.l31 _).symm
theorem c0 (h : OBk t w X s) : w.cell? ⟨X, 0, none⟩ = some (.int .i64 s.t.kind) := h.pre 0 _ rfl
theorem c1 (h : OBk t w X s) : w.cell? ⟨X, 1, none⟩ = some (.int .i64 s.t.a) := h.pre 1 _ rfl
theorem c2 (h : OBk t w X s) : w.cell? ⟨X, 2, none⟩ = some (.int .i64 s.t.n) := h.pre 2 _ rfl
theorem c3 (h : OBk t w X s) : w.cell? ⟨X, 3, none⟩ = some (.int .i64 s.t.owner) := h.pre 3 _ rfl
theorem c30 (h : OBk t w X s) : w.cell? ⟨X, 30, none⟩ = some s.vw := h.vw 0 _ rfl
theorem c31 (h : OBk t w X s) : w.cell? ⟨X, 31, none⟩ = some (.string (str s.t.text)) := h.tx 0 _ rfl
end OBk
theorem zeroCO (w : World) : (zeroValue 32).run prog w = .ok (.agg (oA (sv Sc.z))) w := kf
theorem infoCO : (prog.info? 32).map (·.size) = some 32 := kf
theorem StAt.op {w : World} {X : Nat} {s : StV} (h : StAt w X s) : w.rangeAt X 1 (oL s) := by
 have hb := h.b; unfold zY at hb; rw [zGn] at hb; exact hb.rng rfl
theorem built_O {s : StV} (p16 : s.t.pf.addr.length = 16) {p : Option Addr} {n c : Nat} (hw : s.vw = .slice p n c) :
  prog.built 42 [(0, .int .i64 s.t.kind), (1, .int .i64 s.t.a), (2, .int .i64 s.t.n), (3, .int .i64 s.t.owner), (4, .agg (oSp s.t).toArray), (5, .agg (pfL s.t.pf).toArray), (6, .agg (hopL s.t.hop s.vl s.vr).toArray), (7, .slice p n c), (8, .string (str s.t.text))] = some (oA s) := by
 obtain ⟨⟨is, kind, a, nn, owner, s1, s2, ⟨six, addr, len⟩, ⟨op, labels, port, backup, repair, pipe⟩, ways, text, prt, mpls, bytes⟩, vl, vr, vw, vb⟩ := s; simp only at p16 hw; subst hw; obtain ⟨x0, x1, x2, x3, x4, x5, x6, x7, x8, x9, x10, x11, x12, x13, x14, x15, rfl⟩ := aJ p16
 kernel_rfl
theorem built_T {s : StV} (p16 : s.t.pf.addr.length = 16) {p : Option Addr} {n c : Nat} (hw : s.vw = .slice p n c) :
  prog.built 46 [(0, .bool s.t.is), (1, .agg (oA s)), (2, .agg #[.int .i64 s.t.port, .bool s.t.mpls, .string (str s.t.bytes)])] = some (zY (svS s)) := by
 obtain ⟨⟨is, kind, a, nn, owner, s1, s2, ⟨six, addr, len⟩, ⟨op, labels, port, backup, repair, pipe⟩, ways, text, prt, mpls, bytes⟩, vl, vr, vw, vb⟩ := s; simp only at p16 hw; subst hw; obtain ⟨x0, x1, x2, x3, x4, x5, x6, x7, x8, x9, x10, x11, x12, x13, x14, x15, rfl⟩ := aJ p16
 kernel_rfl
theorem built_P (q : Int) (m : Bool) (b : ByteArray) : prog.built 44 [(0, .int .i64 q), (1, .bool m), (2, .string b)] = some #[.int .i64 q, .bool m, .string b] := kf
theorem xX.svS {q : Nat -> Prop} {w : World} {s : StV} (h : xX q w s) : vG q w (svS s) := ⟨h.l, h.r, h.ws, rfl⟩
theorem oA_one3 {s : StV} (h1 : s.vl.oneCell' = true) (h2 : s.vr.oneCell' = true) (h3 : s.vw.oneCell' = true) : (oA s).all (·.oneCell') = true := by
 have h := zDv (s := { s with vb := .string (str []) }) h1 h2 h3 rfl; have e : uC { s with vb := .string (str []) } = [.bool s.t.is] ++ (oL s ++ ([.int .i64 s.t.port, .bool s.t.mpls, .string (str [])] ++ [])) := zGn _; unfold zY at h; rw [e] at h; unfold oA; rw [List.all_toArray] at h ⊢; rw [jE] at h ⊢; exact fun v hv => h v (oW _ (wG _ hv))
theorem zCd (s : StV) (w : World) (p16 : s.t.pf.addr.length = 16) (hin : xX (fun _ => True) w s) :
  zCB 13 #[.agg (zY s)] w (.agg (zY (svS s))) := by
 obtain ⟨p3, k3, hvw, -⟩ := hin.ws; obtain ⟨p4, k4, hvb, -⟩ := hin.b; have HVW := qh hvw; have HVB := qh hvb; have HB0 : Hid (∀ w1, w1 = w.alloc (.cells (zY s) 37) -> StAt w1 w.heap.size s /\ zW w w1) := qh fun w1 h => by subst h; exact ⟨⟨Blk.new _ _ _, p16⟩, yD w _⟩
 have HBO := qh (built_O p16 hvw); have HBT := qh (built_T p16 hvw); have HBP := qh (built_P s.t.port s.t.mpls (str s.t.bytes))
 have HC : Hid (∀ W, zW w W -> (convert 33 9 (.slice p4 s.t.bytes.length k4)).run prog W = .ok (.string (str s.t.bytes)) W) := qh fun W hb => by
  have h := (hin.b.sl.below hb zn).str (src := 33) (dst := 9) underlying33 underlying5 underlying9; rw [hvb] at h; exact h
 have HON := qh (vG.one hin.svS); have HO1 : Hid ((oA s).all (·.oneCell') = true) := qh (oA_one3 hin.l.one hin.r.one hin.ws.one); have HIO : Hid ((prog.info? 32).map (·.size) = some (oL s).length) := qh (by rw [oL_len]; exact infoCO); have HIO2 : Hid ((prog.info? 32).map (·.size) = some (oA s).size) := qh (by rw [kI]; exact infoCO); have HZO : Hid ((oA (sv Sc.z)).size = (oA s).size) := qh (by rw [kI, kI]); have HIT : Hid ((prog.info? 46).map (·.size) = some (zY (svS s)).size) := qh (by rw [zO]; exact kZ); have HZT : Hid ((zY (svD Sc.z)).size = (zY (svS s)).size) := qh (by rw [zO, zO]); have HLP : Hid ((prog.info? 26).map (·.size) = some (pfL s.t.pf).length) := qh (by rw [bT]; kernel_rfl); clear hvw hvb p16 hin
 go_enter func13, ntmps13
 go_upto_region 1 with (first
  | (refine yS (w := w) rfl _ (.tmp 0) rf (zY s) rf ?_; intro w1 E1; have HS1 := qh (HB0.o w1 E1).1; have HB1 := qh (HB0.o w1 E1).2; clear E1)
  | (refine zQ (w := w1) rfl 46 rf _ zAi ?_; intro w2 E2; have HT2 : Hid (Blk w2 w1.heap.size 46 (zY (svD Sc.z))) := (by rw [E2]; exact qh (Blk.new _ _ _)); have HB2 : Hid (zW w1 w2) := (by rw [E2]; exact qh (yD _ _)); have HS2 := qh (HS1.o.next HB2.o); clear E2))
 refine jD ?_
 iterate 3 go_step
 refine xV 32 (.tmp 4) rf rf w.heap.size 1 rf (oL s) _ HS2.o.op underlying32 rfl HIO.o ?_; simp only [qA, qB, qC, qD, qE, qF, qG]; refine zQ (w := w2) rfl 32 rf _ zeroCO ?_; intro w3 E3; have HX3 : Hid (Blk w3 w2.heap.size 32 (oA (sv Sc.z))) := (by rw [E3]; exact qh (Blk.new _ _ _)); have HB3 : Hid (zW w2 w3) := (by rw [E3]; exact qh (yD _ _)); clear E3; simp only [qA, qB, qC, qD, qE, qF, qG]; refine zJ rfl 32 (.tmp 3) (.tmp 5) rf w2.heap.size (oA s) rf rf _ _ HX3.o HIO2.o HZO.o HO1.o ?_; intro w4 E4; have HX4 : Hid (OBk 32 w4 w2.heap.size s) := (by rw [E4]; exact qh ⟨HX3.o.setRow _⟩); have HB4 : Hid (zW w2 w4) := (by rw [E4]; exact qh (below_setRow HB3.o zn _)); clear E4; have HS4 := qh (HS2.o.next HB4.o); have HT4 := qh (HT2.o.below HB4.o HT2.o.lt); have HB5 := qh ((HB1.o.trans (HB2.o.mono HB1.o.size)).trans (HB4.o.mono (HB1.o.trans (HB2.o.mono HB1.o.size)).size)); have hz1 := HB1.o.size; have a0 := HS4.o.c0; have a33 := HS4.o.c33; have a34 := HS4.o.c34; have a35 := HS4.o.c35; rw [HVB.o] at a35; have c0 := HX4.o.c0; have c1 := HX4.o.c1; have c2 := HX4.o.c2; have c3 := HX4.o.c3; have c30 := HX4.o.c30; rw [HVW.o] at c30; have c31 := HX4.o.c31; have hcv := HC.o w4 HB5.o; clear HS1 HS2 HT2 HX3 HB0 HB1 HB2 HB3 HB4 HC HVW HVB HO1 HIO HIO2 HZO
 go_upto_region 2 with fail
 refine jD ?_
 iterate 33 go_step
 refine xV 23 (.tmp 16) rf rf w2.heap.size 4 rf (oSp s.t) _ HX4.o.sp underlying23 rfl kf ?_; simp only [qA, qB, qC, qD, qE, qF, qG]
 iterate 3 go_step
 refine xV 26 (.tmp 18) rf rf w2.heap.size 6 rf (pfL s.t.pf) _ HX4.o.pf underlying26 rfl HLP.o ?_; simp only [qA, qB, qC, qD, qE, qF, qG]
 iterate 3 go_step
 refine xV 29 (.tmp 20) rf rf w2.heap.size 24 rf (hopL s.t.hop s.vl s.vr) _ HX4.o.hop underlying29 rfl kf ?_; simp only [qA, qB, qC, qD, qE, qF, qG]
 iterate 12 go_step
 refine fH rfl 42 #[(0, .tmp 9), (1, .tmp 11), (2, .tmp 13), (3, .tmp 15), (4, .tmp 17), (5, .tmp 19), (6, .tmp 21), (7, .tmp 23), (8, .tmp 25)] rf [(0, .tmp 9), (1, .tmp 11), (2, .tmp 13), (3, .tmp 15), (4, .tmp 17), (5, .tmp 19), (6, .tmp 21), (7, .tmp 23), (8, .tmp 25)] rfl (oA s) HBO.o ?_; simp only [qA, qB, qC, qD, qE, qF, qG]
 iterate 30 go_step
 refine fH rfl 44 #[(0, .tmp 29), (1, .tmp 32), (2, .tmp 36)] rf [(0, .tmp 29), (1, .tmp 32), (2, .tmp 36)] rfl #[.int .i64 s.t.port, .bool s.t.mpls, .string (str s.t.bytes)] HBP.o ?_; simp only [qA, qB, qC, qD, qE, qF, qG]; refine fH rfl 46 #[(0, .tmp 7), (1, .tmp 26), (2, .tmp 37)] rf [(0, .tmp 7), (1, .tmp 26), (2, .tmp 37)] rfl (zY (svS s)) HBT.o ?_; simp only [qA, qB, qC, qD, qE, qF, qG]; refine zJ rfl 46 (.tmp 2) (.tmp 38) rf w1.heap.size (zY (svS s)) rf rf _ _ HT4.o HIT.o HZT.o HON.o ?_; intro w5 E5; have HT5 : Hid (Blk w5 w1.heap.size 46 (zY (svS s))) := (by rw [E5]; exact qh (HT4.o.setRow _)); have HB6 : Hid (zW w w5) := (by rw [E5]; exact qh (below_setRow HB5.o hz1 _)); clear E5; go_wp2_with fail
 exact zC (mV rfl _ _ _ _ _ _ _ rfl HT5.o underlying46 rfl HIT.o) rfl ⟨rfl, HB6.o⟩
structure InS (w : World) (x : Sc.Scr) (sa : List StV) (va : Value) (W : World) : Prop where
 A : ScAt 61 W w.heap.size x va
 sl : SlP (· < w.heap.size) W 36 uC va sa
 inn : ∀ s ∈ sa, xX (· < w.heap.size) W s
 bel : zW w W
theorem InS.grown {w W W' : World} {x : Sc.Scr} {sa : List StV} {va : Value} (h : InS w x sa va W) {row : Option Nat} (hg : W.grownBy W' row) (hr : ∀ b, row = some b -> w.heap.size + 1 <= b) : InS w x sa va W' :=
 ⟨h.A.grown hg (fun e => by have := hr _ e; omega), h.sl.grown hg (fun b hb e => by have := hr _ e; omega), fun s hs => (h.inn s hs).grown hg (fun b hb e => by have := hr _ e; omega),
  h.bel.grown hg h.bel.size (fun k e => by have := hr k e; omega)⟩
theorem InS.next {w W W' : World} {x : Sc.Scr} {sa : List StV} {va : Value} (h : InS w x sa va W) (hb : zW W W') : InS w x sa va W' := h.grown (row := none) (uE hb _) (fun b e => by cases e)
theorem InS.new {w : World} {x : Sc.Scr} {sa : List StV} {va : Value} (z : Sc.Sized x) (hsl : SlP (· < w.heap.size) w 36 uC va sa) (hin : ∀ s ∈ sa, xX (· < w.heap.size) w s) : InS w x sa va (w.alloc (.cells (scA x va) 61)) :=
 ⟨⟨Blk.new _ _ _, z⟩, hsl.below (yD w _) zn, fun s hs => (hin s hs).below (yD w _) zn, yD w _⟩
theorem InS.range {w W : World} {x : Sc.Scr} {sa : List StV} {va : Value} (h : InS w x sa va W) {p : Option Addr} {n c : Nat} (hv : va = .slice p n c) {k : Nat} (hk : k < sa.length) : ∃ b off, p = some ⟨b, off, none⟩ /\ ∀ W', InS w x sa va W' -> W'.rangeAt b (off + k * 36) (uC sa[k]) := by
 obtain ⟨q, d, e, -, -, hR, -⟩ := h.sl; rw [hv] at e; cases e; obtain ⟨b, off, rfl, -⟩ := hR.range hk; refine ⟨b, off, rfl, fun W' h' => ?_⟩; obtain ⟨q2, d2, e2, -, -, hR2, -⟩ := h'.sl; rw [hv] at e2; cases e2; obtain ⟨g1, f1, e1, u0⟩ := hR2.range hk
 cases e1; exact u0
end Go.Proofs.YtdbgeobolongmaaGreatDoor
