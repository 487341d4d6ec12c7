/- Part of the proof: ScriptLines, ScriptParses, ScriptShows. -/
import Derived.Great.BuildSlice
import Derived.Test.YtdbgeobolongmaaGreatDoorSA26
set_option linter.unusedVariables false
set_option linter.unusedSimpArgs false
set_option maxRecDepth 100000
set_option maxHeartbeats 8000000
namespace Go.Proofs.YtdbgeobolongmaaGreatDoor
open Go.RowKit Go.Shelf Go.Proofs Go.OctetPlain Go.PrefixPlain Go.ColonPlain Go.Proofs.Tryz
def slA (a b : List UInt8) : Array Value := ((a ++ b).map fun c => Value.int .u8 (c.toNat : Int)).toArray
theorem bV {a b : List UInt8} (ha : a.length = 4) (hb : b.length = 16) : (slA a b).size = 20 := by simp [slA, ha, hb]
theorem nG (a b : List UInt8) : (slA a b).all (·.oneCell') = true := sV fun v hv => by
 obtain ⟨c, -, rfl⟩ := vB.1 hv; rfl
def zGm (o : Option (List UInt8 × List UInt8)) (W : World) (e : Ending) (W' : World) : Prop := ∃ a b : List UInt8, a.length = 4 /\ b.length = 16 /\ e = .returned (.tuple #[.agg (slA a b), .bool o.isSome]) /\ (∀ r, o = some r -> r = (a, b)) /\ zW W W'
theorem self_none {l : List Hp.Wd} (h : l.length ≠ 3) : Sc.selfR l = none := by
 match l, h with
 | [], _ => rfl
 | [_], _ => rfl
 | [_, _], _ => rfl
 | [_, _, _], h => exact absurd rfl h
 | _ :: _ :: _ :: _ :: _, _ => rfl
theorem zero4B (w : World) : (zeroValue 56).run prog w = .ok (.agg (arrB [0, 0, 0, 0])) w := kf
theorem zero16B (w : World) : (zeroValue 24).run prog w = .ok (.agg (arrB z16)) w := kf
theorem info4B : (prog.info? 56).map (·.size) = some 4 := kf
theorem zGq : (prog.info? 24).map (·.size) = some 16 := kf
theorem nD (l : List UInt8) : (arrB l).size = l.length := by simp [arrB]
theorem arrB_on (l : List UInt8) : (arrB l).all (·.oneCell') = true := sV fun v hv => by
 obtain ⟨c, -, rfl⟩ := vB.1 hv; rfl
def z4 : List UInt8 := [0, 0, 0, 0]
theorem dotted_length4 {x v : List UInt8} (h : xZ x = some v) : v.length = 4 := kE _ _ _ h
theorem dotted4 {x : List UInt8} : ((xZ x).getD [0, 0, 0, 0]).length = 4 := by
 cases h : xZ x with
 | none => rfl
 | some v => exact dotted_length4 h
theorem parse16 {x : List UInt8} : ((parse x).getD z16).length = 16 := by
 cases h : parse x with
 | none => rfl
 | some v => exact aN h
theorem self_eq (x0 x1 x2 : Hp.Wd) : Sc.selfR [x0, x1, x2] = if x0 = Sc.wSelf then (if (xZ x1).isSome = true /\ (parse x2).isSome = true /\ show_ ((parse x2).getD z16) = x2 then some ((xZ x1).getD [0, 0, 0, 0], (parse x2).getD z16) else none) else none := by
 rw [show Sc.selfR [x0, x1, x2] = (if x0 = Sc.wSelf then (match xZ x1, parse x2 with | some x, some y => if show_ y = x2 then some (x, y) else none | _, _ => none) else none) from rfl]
 by_cases h0 : x0 = Sc.wSelf
 ·rw [zN h0, zN h0]
  cases xZ x1 with
  | none => rw [zH (fun h => by cases h.1)]
  |some a => cases parse x2 with
   | none => rw [zH (fun h => by cases h.2.1)]
   |some c =>
    by_cases h : show_ c = x2
    ·simp only [h, aB]; rw [zN ⟨rfl, rfl, h⟩]; rfl
    ·simp only [h, zDk]; rw [zH (fun q => h q.2.2)]
 ·rw [zH h0, zH h0]
theorem exec_build {P : Program} {o : Oper} {a : Act} {ty : TypeId} {parts : Array (Nat × Operand)} {v : Value} {w : World} (ho : o.op = .build ty parts) (hr : (Instr.build ty (parts.map fun (i, x) => (i, a.eval x))).run P w = .ok v w) : (execOp a.eval o).run P w = .ok (.value v) w := by
 simp only [execOp, ho, kS, hr, jA, qN]
structure SlS (W : World) (R : Nat) (t : TypeId) (W' : World) : Prop where
 g : W.grownBy W' (some R)
 b : ∃ cs, Blk W' R t cs /\ cs.size = 20
theorem SlS.call {W w w' : World} {R : Nat} {t : TypeId} (h : SlS W R t w) (hb : zW w w') : SlS W R t w' := by
 obtain ⟨cs, h1, h2⟩ := h.b; exact ⟨kF h.g (hb.mono h.g.size), cs, h1.below hb h1.lt, h2⟩
theorem infoS : (prog.info? 58).map (·.size) = some 20 := kf
theorem zeroS (w : World) : (zeroValue 58).run prog w = .ok (.agg (slA z4 z16)) w := kf
theorem buildS {a b : List UInt8} (ha : a.length = 4) (hb : b.length = 16) (w : World) : (Instr.build 58 #[(0, .agg (arrB a)), (1, .agg (arrB b))]).run prog w = .ok (.agg (slA a b)) w := by
 obtain ⟨a0, a1, a2, a3, rfl⟩ := zBg ha; obtain ⟨b0, b1, b2, b3, b4, b5, b6, b7, b8, b9, b10, b11, b12, b13, b14, b15, rfl⟩ := aJ hb
 kernel_rfl
theorem infoM : (prog.info? 66).map (·.size) = some 20 := kf
theorem zeroM (w : World) : (zeroValue 66).run prog w = .ok (.agg (slA z4 z16)) w := kf
theorem buildM {a b : List UInt8} (ha : a.length = 4) (hb : b.length = 16) (w : World) : (Instr.build 66 #[(0, .agg (arrB a)), (1, .agg (arrB b))]).run prog w = .ok (.agg (slA a b)) w := by
 obtain ⟨a0, a1, a2, a3, rfl⟩ := zBg ha; obtain ⟨b0, b1, b2, b3, b4, b5, b6, b7, b8, b9, b10, b11, b12, b13, b14, b15, rfl⟩ := aJ hb
 kernel_rfl
theorem self_two (l : List Hp.Wd) (hl : l.length <= 1048576) (hx : ∀ x ∈ l, x.length <= 65536) (v : Value) (w : World) (hv : SlR w 1 encS v l) :
  (ST w -> Calls prog 81 #[v] w (zGm (Sc.selfR l) w)) /\ Calls prog 40 #[v] w (zGm (Sc.selfR l) w) := by
 refine ⟨fun ht => ?_, ?_⟩; have HT := qh ht; have HD := qh fun x (h : x.length <= 65536) W (_ : zW w W) => oK x om W; have HP := qh fun x (h : x.length <= 65536) W (hb : zW w W) => zFi x om W (HT.o.below hb).p.ct; have HS := qh fun x h W (hb : zW w W) => zBp x h W (HT.o.below hb).p.ct; have HBD := qh fun a b h1 h2 w => buildS (a := a) (b := b) h1 h2 w; have HU := qh underlying58; have HZR := qh zeroS; have HIN := qh infoS; rotate_left; have HD := qh fun x (h : x.length <= 65536) W (_ : zW w W) => zBw x om W; have HP := qh fun x (h : x.length <= 65536) W (_ : zW w W) => ref_Parse7 x om W; have HS := qh fun x h W (_ : zW w W) => ref_Show x h W; have HBD := qh fun a b h1 h2 w => buildM (a := a) (b := b) h1 h2 w; have HU := qh underlying66; have HZR := qh zeroM; have HIN := qh infoM; rotate_left
 all_goals
  obtain ⟨p, cap, rfl, h1, h2, hR⟩ := hv
  by_cases h3 : l.length = 3
  ·obtain ⟨x0, x1, x2, rfl⟩ : ∃ a b c, l = [a, b, c] := by
    match l, h3 with
    | [a, b, c], _ => exact ⟨a, b, c, rfl⟩
   have HR := qh fun W (hb : zW w W) => hR.below hb zn; obtain ⟨b, off, rfl, hbl, -⟩ := hR.at (i := 0) zi
   have HC : Hid (∀ W, zW w W -> W.cell? ⟨b, off, none⟩ = some (.string (str x0)) /\ W.cell? ⟨b, off + 1, none⟩ = some (.string (str x1)) /\ W.cell? ⟨b, off + 2, none⟩ = some (.string (str x2))) := qh fun W hb => by
    have h := HR.o W hb; have c0 := h.in (i := 0) zi 0 _ rfl; have c1 := h.in (i := 1) zi 0 _ rfl; have c2 := h.in (i := 2) zi 0 _ rfl; exact ⟨by simpa using c0, by simpa using c1, by simpa using c2⟩
   have htl := vX; have h1' := hx x1 zi; have h2' := hx x2 zi; replace HD := qh (HD.o x1 h1'); replace HP := qh (HP.o x2 h2'); replace HS := qh (HS.o ((parse x2).getD z16) parse16); have HO : Hid (Sc.selfR [x0, x1, x2] = if x0 = Sc.wSelf then (if (xZ x1).isSome = true /\ (parse x2).isSome = true /\ show_ ((parse x2).getD z16) = x2 then some ((xZ x1).getD [0, 0, 0, 0], (parse x2).getD z16) else none) else none) := qh (self_eq x0 x1 x2); have L4 : ((xZ x1).getD [0, 0, 0, 0]).length = 4 := dotted4; have L6 : ((parse x2).getD z16).length = 16 := parse16; replace HBD := qh fun w => HBD.o _ _ L4 L6 w; have HL4 := qh L4; have HL6 := qh L6; generalize Sc.selfR [x0, x1, x2] = o at *; generalize (xZ x1).isSome = is4 at *; generalize (parse x2).isSome = is6 at *; generalize (xZ x1).getD [0, 0, 0, 0] = q4 at *; generalize hq6 : (parse x2).getD z16 = q6 at *; clear hq6; generalize hsp : show_ q6 = sp at *; clear hsp; clear hR h3 hx h1' h2' hl h1 L4 L6; obtain ⟨d0, d1, d2⟩ := HC.o w zb
   by_cases h0 : x0 = Sc.wSelf
   ·have he : (x0 == ([115, 101, 108, 102] : List UInt8)) = true := uP.2 h0
    have HO1 : Hid (o = if is4 = true /\ is6 = true /\ sp = x2 then some (q4, q6) else none) := qh (by rw [HO.o, zN h0]); clear h0 HO
    first | go_enter func81, ntmps81 | go_enter func40, ntmps40
    go_wp2_with (refine wpN rfl _ rf _ HZR.o zb ?_; intro wz HRZ HBZ hG; clear hG; clear d0 d1 d2; obtain ⟨d0, d1, d2⟩ := HC.o wz HBZ.o)
    refine zT (HD.o _ HBZ.o) fun w1 hb1 => ?_; have HB1 := qh (HBZ.o.trans (hb1.mono HBZ.o.size)); have HR1 := qh (HRZ.o.below hb1 HRZ.o.lt); have hz1 := hb1.size; clear d0 d1 d2 hb1; obtain ⟨d0, d1, d2⟩ := HC.o w1 HB1.o
    go_wp2_with (first
     | (refine wpN rfl 56 rf _ zero4B HB1.o ?_; intro w2 HA2 HB2 hG; have HR2 := qh (HR1.o.below hG.o HR1.o.lt); clear hG)
     | (refine wpF rfl 56 (.tmp 4) (.tmp 23) rf w1.heap.size (arrB q4) rf rf HA2.o (by rw [nD, HL4.o]; exact info4B) (by rw [nD, nD, HL4.o]; rfl) (arrB_on _) HB2.o HB1.o.size ?_; intro w3 HA3 HB3 hG; have HR3 := qh (HR2.o.grown hG.o (by have := HR1.o.lt; omega)); clear hG; clear d0 d1 d2; obtain ⟨d0, d1, d2⟩ := HC.o w3 HB3.o))
    refine zT (HP.o _ HB3.o) fun w4 hb4 => ?_; have HB4 := qh (HB3.o.trans (hb4.mono HB3.o.size)); have HR4 := qh (HR3.o.below hb4 HR3.o.lt); have HA4 := qh (HA3.o.below hb4 HA3.o.lt); have hz4 := HA4.o.lt; clear d0 d1 d2 hb4; obtain ⟨d0, d1, d2⟩ := HC.o w4 HB4.o
    go_upto_region 5 with (first
     | (refine wpN rfl 24 rf _ zero16B HB4.o ?_; intro w5 HC5 HB5 hG; have HR5 := qh (HR4.o.below hG.o HR4.o.lt); have HA5 := qh (HA4.o.below hG.o HA4.o.lt); clear hG)
     | (refine wpF rfl 24 (.tmp 6) (.tmp 30) rf w4.heap.size (arrB q6) rf rf HC5.o (by rw [nD, HL6.o]; exact zGq) (by rw [nD, nD, HL6.o]; rfl) (arrB_on _) HB5.o HB4.o.size ?_; intro w6 HC6 HB6 hG; have HR6 := qh (HR5.o.grown hG.o (by have := HR4.o.lt; omega)); have HA6 := qh (HA5.o.grown hG.o om); clear hG; clear d0 d1 d2; obtain ⟨d0, d1, d2⟩ := HC.o w6 HB6.o))
    have hI4 : (prog.info? 56).map (·.size) = some (arrB q4).size := by rw [nD, HL4.o]; exact info4B
    have hI6 : (prog.info? 24).map (·.size) = some (arrB q6).size := by rw [nD, HL6.o]; exact zGq
    have hIS := HIN.o.trans (yG some (bV HL4.o HL6.o).symm); have hSZ : (slA q4 q6).size = 20 := bV HL4.o HL6.o; have HIS := qh hIS; have hzz := HRZ.o.lt; have HI4 := qh hI4; have HI6 := qh hI6; have HSZ := qh hSZ; have HON := qh (nG q4 q6); clear hIS hI4 hI6 hSZ HA2 HA3 HB1 HB2 HB3 HB4 HB5 HBZ HR1 HR2 HR3 HR4 HR5 HRZ HC5 HA4 HA5 d0 d1; have hbR : b ≠ w.heap.size := om; have hg1 : w1.heap.size ≠ w.heap.size := by have := HR6.o.lt; omega
    have hg4 : w4.heap.size ≠ w.heap.size := om; have HSR : Hid (∀ W', w6.grownBy W' (some w.heap.size) -> zW w W') := qh fun W' h => HB6.o.trans (jB h HB6.o.size zn); have HD2 := qh d2; clear d2; refine yB (S := SlS w6 w.heap.size _) kf ⟨uE (zb.drew) _, _, HR6.o.below ((xE w6.heap.size w6).drew) HR6.o.lt, bV rfl rfl⟩ (fun hHeld => ?_); refine kY 0 rfl (zR rfl (w1.heap.size) rfl _ (arrB q4) _ (fun w h => HA6.o.grown h.g hg1) underlying56 rfl HI4.o) ?_; refine kY 1 rfl (zR rfl (w4.heap.size) rfl _ (arrB q6) _ (fun w h => HC6.o.grown h.g hg4) underlying24 rfl HI6.o) ?_; refine kY 2 rfl (v := .agg (slA q4 q6)) (Or.inl ⟨rf, fun w _ => exec_build rfl (by simp only [jF, yM, xH]; exact HBD.o w)⟩) ?_; refine kq 3 ?_; refine kq 4 ?_; have HSS := qh hHeld
    by_cases hb : is4 = true /\ is6 = true
    ·obtain ⟨rfl, rfl⟩ := hb
     obtain ⟨hq, heq, HLL⟩ : ∃ hq : Bool, (sp == x2) = hq /\ Hid (o = match hq with | true => some (q4, q6) | false => none) := by
      by_cases hq2 : sp = x2
      ·exact ⟨true, by simpa using hq2, qh (by rw [HO1.o]; exact zN ⟨rfl, rfl, hq2⟩)⟩
      ·exact ⟨false, by simpa using hq2, qh (by rw [HO1.o]; exact zH (fun h => hq2 h.2.2))⟩
     cases hq
     all_goals
      refine kq 5 ?_; refine kq 6 ?_; refine kq 7 ?_; refine kY 8 rfl (zR rfl (w4.heap.size) rfl _ (arrB q6) _ (fun w h => HC6.o.grown h.g hg4) underlying24 rfl HI6.o) ?_; refine kq 10 ?_; refine kq 11 ?_; refine kh 12 (fun w h => h.g.cell HD2.o (fun e => hbR (vW e))) ?_; refine zS 9 fun K hK => ?_; go_simp; refine zT (HS.o _ (HSR.o _ HSS.o.g)) fun w9 hb9 => ?_; have HV9 := HSS.o.call hb9; go_wp2_with fail
      refine zK hK (HV9) fun hHeld => ?_; clear hK K; refine kq 13 ?_ (hy := by intro w h; have z := heq; have z2 := vX; go_simp; try with_reducible rfl); refine kq 14 ?_; have HQ := qh hHeld; obtain ⟨cs0, hcs0, hsz0⟩ := hHeld.b; refine zS 15 fun K hK => ?_; refine lC _ _ _ rfl (w.heap.size) (slA q4 q6) rfl rfl _ (cs0) (hcs0) HIS.o (by rw [hsz0, HSZ.o]) (HON.o) ?_; refine zK hK (⟨uK HQ.o.g (uV _ _ _), _, hcs0.setRow _, HSZ.o⟩) fun hHeld => ?_; clear hK K; have HB9 := qh (hcs0.setRow (slA q4 q6)); have HG9 := qh (HSR.o _ hHeld.g); refine kq 16 ?_; refine zD ?_; go_wp2_with fail
      exact zC (results_cell_tmp rfl _ _ _ _ _ _ _ rfl HB9.o HU.o rfl HIS.o) rfl ⟨q4, q6, HL4.o, HL6.o, by rw [HLL.o]; rfl, (fun r h => by rw [HLL.o] at h; first | exact (vW h).symm | cases h), HG9.o⟩
    ·have HLL : Hid (o = none) := qh (by rw [HO1.o]; exact zH (fun h => hb ⟨h.1, h.2.1⟩))
     have hcs : is4 = false ∨ is4 = true /\ is6 = false := by revert hb; cases is4 <;> cases is6 <;> simp
     clear hb
     rcases hcs with rfl | ⟨rfl, rfl⟩
     all_goals
      first
       | refine kq 5 ?_
       | refine tn 5 ?_
      refine kq 6 ?_; refine kq 7 ?_; refine tn 8 ?_; refine tn 9 ?_; refine tn 10 ?_; refine tn 11 ?_; refine tn 12 ?_; refine tn 13 ?_; refine kq 14 ?_; have HQ := qh hHeld; obtain ⟨cs0, hcs0, hsz0⟩ := hHeld.b; refine zS 15 fun K hK => ?_; refine lC _ _ _ rfl (w.heap.size) (slA q4 q6) rfl rfl _ (cs0) (hcs0) HIS.o (by rw [hsz0, HSZ.o]) (HON.o) ?_; refine zK hK (⟨uK HQ.o.g (uV _ _ _), _, hcs0.setRow _, HSZ.o⟩) fun hHeld => ?_; clear hK K; have HB9 := qh (hcs0.setRow (slA q4 q6)); have HG9 := qh (HSR.o _ hHeld.g); refine kq 16 ?_; refine zD ?_; go_wp2_with fail
      exact zC (results_cell_tmp rfl _ _ _ _ _ _ _ rfl HB9.o HU.o rfl HIS.o) rfl ⟨q4, q6, HL4.o, HL6.o, by rw [HLL.o]; rfl, (fun r h => by rw [HLL.o] at h; cases h), HG9.o⟩
   ·have he : (x0 == ([115, 101, 108, 102] : List UInt8)) = false := yF.2 h0
    have HON : Hid (o = none) := qh (by rw [HO.o, zH h0]); clear h0 HO
    first | go_enter func81, ntmps81 | go_enter func40, ntmps40
    go_wp2_with (first
     | (refine wpN rfl _ rf _ HZR.o zb ?_; intro wz HRZ HBZ hG; clear hG; clear d0 d1 d2; obtain ⟨d0, d1, d2⟩ := HC.o wz HBZ.o)
     | (refine wpF rfl _ (.tmp 2) (.tmp 17) rf w.heap.size (slA z4 z16) rf rf HRZ.o HIN.o rfl (nG _ _) HBZ.o zn ?_; intro w8 HR8 HB8 hG; clear hG))
    exact zC (results_cell_tmp rfl _ _ _ _ _ _ _ rfl HR8.o HU.o rfl HIN.o) rfl ⟨z4, z16, rfl, rfl, by rw [HON.o]; rfl, (fun r h => by rw [HON.o] at h; cases h), HB8.o⟩
  ·have hn : ((l.length : Int) != 3) = true := by simp only [jZ, qR]; omega
   have HON := qh (self_none h3); clear h3
   first | go_enter func81, ntmps81 | go_enter func40, ntmps40
   go_wp2_with (first
    | (refine wpN rfl _ rf _ HZR.o zb ?_; intro wz HRZ HBZ hG; clear hG)
    | (refine wpF rfl _ (.tmp 2) (.tmp 17) rf w.heap.size (slA z4 z16) rf rf HRZ.o HIN.o rfl (nG _ _) HBZ.o zn ?_; intro w8 HR8 HB8 hG; clear hG))
   exact zC (results_cell_tmp rfl _ _ _ _ _ _ _ rfl HR8.o HU.o rfl HIN.o) rfl ⟨z4, z16, rfl, rfl, by rw [HON.o]; rfl, (fun r h => by rw [HON.o] at h; cases h), HB8.o⟩
theorem scr_self (l : List Hp.Wd) (hl : l.length <= 1048576) (hx : ∀ x ∈ l, x.length <= 65536) (v : Value) (w : World) (ht : ST w) (hv : SlR w 1 encS v l) :
  Calls prog 81 #[v] w (zGm (Sc.selfR l) w) := (self_two l hl hx v w hv).1 ht
theorem r32_self (l : List Hp.Wd) (hl : l.length <= 1048576) (hx : ∀ x ∈ l, x.length <= 65536) (v : Value) (w : World) (hv : SlR w 1 encS v l) :
  Calls prog 40 #[v] w (zGm (Sc.selfR l) w) := (self_two l hl hx v w hv).2
end Go.Proofs.YtdbgeobolongmaaGreatDoor
namespace Go.Proofs.YtdbgeobolongmaaGreatDoor
open Go.RowKit Go.Shelf Go.Proofs Go.OctetPlain Go.PrefixPlain
def zAo (P : Program) (t e : TypeId) (size bytes : Nat) : Prop :=
 P.underlying t = some (.slice e) /\ bytes <= 1024 /\ 0 < size /\ ∃ i z, P.info? e = some i /\ i.zero = some z /\ i.size = size /\ i.bytes = bytes /\ z.cells.size = size
theorem zAo.mk {P : Program} {t e : TypeId} {size bytes : Nat} {z : Value} (ht : P.underlying t = some (.slice e)) (h : (P.info? e).map (fun i => (i.zero, i.size, i.bytes)) = some (some z, size, bytes)) (hb : bytes <= 1024) (hs : 0 < size) (hz : z.cells.size = size) : zAo P t e size bytes := by
 obtain ⟨i, h1, h2, h3, h4⟩ := info_parts h; exact ⟨ht, hb, hs, i, z, h1, h2, h3, h4, hz⟩
theorem big_bytes {n bytes : Nat} (h : n <= 1073741824) (hb : bytes <= 1024) : n * bytes <= 140737488355328 := by
 have : n * bytes <= 1073741824 * 1024 := Nat.mul_le_mul h hb; omega
section
variable {P : Program} {w : World} {o : Oper} {a : Act} {Q : Exit -> Act -> World -> Prop} {t e : TypeId} {size bytes : Nat}
theorem tV {K : Act -> World -> Prop} (hE : zAo P t e size bytes) (s x : Operand)
  (ho : o.op = .call { callee := .builtin .append, args := #[s, x], argTypes := #[t, t] })
  (base : Nat) (v : Value) (n : Nat) (xs : List Value) (hs : a.eval s = v) (hown : w.ownsRow base e size v n xs)
  (ad : Addr) (m c : Nat) (news : List Value) (hx : a.eval x = .slice (some ad) m c) (hl : news.length = m * size) (hnews : ∀ j u, news[j]? = some u -> w.cell? (ad.add j) = some u) (h1 : ∀ u ∈ news, u.oneCell' = true)
  (hsm : n + m <= 1073741824) (hbase : base <= w.heap.size)
  (h : ∀ v' w', w'.ownsRow base e size v' (n + m) (xs ++ news) -> w.grownBy w' v.ownBlock -> (v'.ownBlock = v.ownBlock ∨ v'.ownBlock = some w.heap.size) -> K (a.put o.dst v') w') : o.wp P a w K Q := by
 obtain ⟨ht, hb, hsz, i, z, hi, hz, hsize, hby, hzs⟩ := hE; obtain ⟨v', w', hr', h2, h3, h4, h5⟩ := run_append_own_at (P := P) w base t o.type e i z size bytes ht hi hz hsize hby hzs hsz v n xs hown ad m c news hl hnews h1 (by unfold maxLen; omega) (big_bytes hsm hb) hbase; unfold Oper.wp execOp; simp only [ho, resolve, invoke, builtin, kS, qN, jA, jF, yM, xH, hs, hx, hr']; exact h v' w' h2 h3 h5
end
theorem pI (w : World) (news : List Value) (e : TypeId) (g : Nat) (hg : g = w.heap.size) : ∀ j u, news[j]? = some u -> (w.alloc (.cells news.toArray e)).cell? ((⟨g, 0, none⟩ : Addr).add j) = some u := by
 subst hg; exact nN w news e
theorem mG {P : Program} {o : Oper} {a : Act} {w : World} {K : Act -> World -> Prop} {Q : Exit -> Act -> World -> Prop} (t e : TypeId) (x : Operand) (ho : o.op = .buildSlice t 1 #[(0, x)]) (cells : Array Value) (hx : a.eval x = .agg cells) (n : Nat) (hn : cells.size = n) (h0 : 0 < n) (h24 : n <= 1000)
  (hu : P.underlying t = some (.slice e)) (hsz : (P.info? e).map (·.size) = some n) (hz : ((P.info? e).bind (·.zero)).map (·.cells.size) = some n)
  (h : K (a.put o.dst (.slice (some ⟨w.heap.size, 0, none⟩) 1 1)) (w.alloc (.cells cells e))) : o.wp P a w K Q := by
 cases hie : P.info? e with
 | none => simp [hie] at hsz
 |some ie =>
  simp only [hie, mZ, uX, Option.bind_some] at hsz hz
  cases hzz : ie.zero with
  | none => simp [hzz] at hz
  |some z =>
   refine wp_buildSlice t e 1 #[(0, x)] ho cells ie z hu hie hzz (by rw [hsz]; omega) (by rw [hsz]; omega) ?_ h
   have hf := Great.fill_whole (s := n) h0 [.agg cells] ((Array.range (1 * n)).map (z.cells[· % z.cells.size]!)) (fun v hv => by
    obtain rfl : v = .agg cells := by simpa using hv
    exact hn) zi
   rw [hsz]; simp only [jF, yM, xH, hx]
   simpa [Value.cells] using hf
def scL (x : Sc.Scr) (v : Value) : List Value := (rmA (x.r1, x.r2, x.r3)).toList ++ ((slA x.four x.six).toList ++ ([v] ++ []))
def scA (x : Sc.Scr) (v : Value) : Array Value := (scL x v).toArray
theorem zGp {x : Sc.Scr} (z : Sc.Sized x) : (slA x.four x.six).toList.length = 20 := by rw [bK]; exact bV z.four z.six
theorem qM {x : Sc.Scr} (z : Sc.Sized x) (v : Value) : (scA x v).size = 24 := by
 unfold scA scL; rw [List.size_toArray, zG, zG, zGp z]
 rfl
structure ScAt (t : TypeId) (w : World) (X : Nat) (x : Sc.Scr) (v : Value) : Prop where
 b : Blk w X t (scA x v)
 z : Sc.Sized x
namespace ScAt
variable {t : TypeId} {w : World} {X : Nat} {x : Sc.Scr} {v : Value}
theorem lt (h : ScAt t w X x v) : X < w.heap.size := h.b.lt
theorem rm (h : ScAt t w X x v) : w.rangeAt X 0 (rmA (x.r1, x.r2, x.r3)).toList := by
 have hb := h.b; unfold scA scL at hb; exact Blk.rng (A := []) hb rfl
theorem sl (h : ScAt t w X x v) : w.rangeAt X 3 (slA x.four x.six).toList := by
 have hb := h.b; unfold scA scL at hb; exact hb.rng rfl
theorem vs (h : ScAt t w X x v) : w.rangeAt X 23 [v] := by
 have hb := h.b; unfold scA scL at hb; rw [← xQ] at hb; exact hb.rng (by rw [zG, zGp h.z]; rfl)
theorem c0 (h : ScAt t w X x v) : w.cell? ⟨X, 0, none⟩ = some (.int .i64 x.r1) := h.rm 0 _ rfl
theorem c1 (h : ScAt t w X x v) : w.cell? ⟨X, 1, none⟩ = some (.int .i64 x.r2) := h.rm 1 _ rfl
theorem c2 (h : ScAt t w X x v) : w.cell? ⟨X, 2, none⟩ = some (.int .i64 x.r3) := h.rm 2 _ rfl
theorem c23 (h : ScAt t w X x v) : w.cell? ⟨X, 23, none⟩ = some v := h.vs 0 _ rfl
theorem fz (h : ScAt t w X x v) (i : Nat) : w.frozen? ⟨X, i, none⟩ = false := h.b.frozen' i
theorem th (h : ScAt t w X x v) {o n : Nat} (hn : o + n <= 24) : w.there X o n := h.b.th (by rw [qM h.z]; exact hn)
theorem below (h : ScAt t w X x v) {w' : World} {B : Nat} (hb : Below B w w') (hX : X < B) : ScAt t w' X x v := ⟨h.b.below hb hX, h.z⟩
theorem next (h : ScAt t w X x v) {w' : World} (hb : zW w w') : ScAt t w' X x v := h.below hb h.lt
theorem grown (h : ScAt t w X x v) {w' : World} {g : Option Nat} (hg : w.grownBy w' g) (hne : g ≠ some X) : ScAt t w' X x v := ⟨h.b.grownO hg hne, h.z⟩
theorem setRm (h : ScAt t w X x v) (r : Int × Int × Int) : ScAt t (w.setCells X 0 (rmA r).toList) X { x with r1 := r.1, r2 := r.2.1, r3 := r.2.2 } v := by
 have hb := h.b; unfold scA scL at hb; exact ⟨Blk.mid (A := []) (M := (rmA (x.r1, x.r2, x.r3)).toList) (vs := (rmA r).toList) hb rf rfl, h.z.four, h.z.six⟩
theorem setSl (h : ScAt t w X x v) {a b : List UInt8} (ha : a.length = 4) (hb' : b.length = 16) : ScAt t (w.setCells X 3 (slA a b).toList) X { x with four := a, six := b } v := by
 have hb := h.b; unfold scA scL at hb; refine ⟨?_, ha, hb'⟩; unfold scA scL; exact Blk.mid hb (by rw [zGp h.z, bK, bV ha hb']) rfl
theorem setV (h : ScAt t w X x v) (v' : Value) : ScAt t (w.setCell ⟨X, 23, none⟩ v') X x v' := by
 have hb := h.b; unfold scA scL at hb; refine ⟨?_, h.z⟩; unfold scA scL; rw [← xQ] at hb ⊢; exact Blk.mid1 hb (by rw [zG, zGp h.z]; rfl)
end ScAt
structure vG (q : Nat -> Prop) (w : World) (s : StV) : Prop where
 l : SlP q w 1 encI s.vl s.t.hop.labels
 r : SlP q w 1 encI s.vr s.t.hop.repair
 ws : SlP q w 2 aV s.vw s.t.ways
 b : s.vb = .string (str s.t.bytes)
namespace vG
variable {q : Nat -> Prop} {w w' : World} {s : StV}
theorem below (h : vG q w s) {B : Nat} (hb : Below B w w') (hB : w.heap.size <= B) : vG q w' s := ⟨h.l.below hb hB, h.r.below hb hB, h.ws.below hb hB, h.b⟩
theorem grown (h : vG q w s) {row : Option Nat} (hg : w.grownBy w' row) (hr : ∀ b, q b -> row ≠ some b) : vG q w' s := ⟨h.l.grown hg hr, h.r.grown hg hr, h.ws.grown hg hr, h.b⟩
theorem imp (h : vG q w s) {r : Nat -> Prop} (hi : ∀ b, q b -> r b) : vG r w s := ⟨h.l.imp hi, h.r.imp hi, h.ws.imp hi, h.b⟩
theorem bd (h : vG q w s) : vG (fun b => q b /\ b < w.heap.size) w s := ⟨h.l.bd, h.r.bd, h.ws.bd, h.b⟩
theorem one (h : vG q w s) : (zY s).all (·.oneCell') = true := zDv h.l.one h.r.one h.ws.one (by rw [h.b]; rfl)
end vG
theorem xX.bd2 {q : Nat -> Prop} {w : World} {s : StV} (h : xX q w s) : xX (fun b => q b /\ b < w.heap.size) w s := ⟨h.l.bd, h.r.bd, h.ws.bd, h.b.bd⟩
structure Good (IN : (Nat -> Prop) -> World -> StV -> Prop) : Prop where
 grown : ∀ {q : Nat -> Prop} {w w' : World} {s : StV} {row : Option Nat}, IN q w s -> w.grownBy w' row -> (∀ b, q b -> row ≠ some b) -> IN q w' s
 imp : ∀ {q r : Nat -> Prop} {w : World} {s : StV}, IN q w s -> (∀ b, q b -> r b) -> IN r w s
 bd : ∀ {q : Nat -> Prop} {w : World} {s : StV}, IN q w s -> IN (fun b => q b /\ b < w.heap.size) w s
 one : ∀ {q : Nat -> Prop} {w : World} {s : StV}, IN q w s -> (zY s).all (·.oneCell') = true
theorem uB : Good xX := ⟨fun h hg hr => h.grown hg hr, fun h hi => h.imp hi, fun h => h.bd2, fun h => h.one⟩
theorem goodD : Good vG := ⟨fun h hg hr => h.grown hg hr, fun h hi => h.imp hi, fun h => h.bd, fun h => h.one⟩
theorem Good.below {IN : (Nat -> Prop) -> World -> StV -> Prop} (G : Good IN) {q : Nat -> Prop} {w w' : World} {s : StV} (h : IN q w s) (hb : zW w w') : IN q w' s := G.grown (row := none) h (uE hb _) (fun b _ e => by cases e)
structure ScS (T E : TypeId) (IN : (Nat -> Prop) -> World -> StV -> Prop) (Y : Nat -> Prop) (W : World) (X : Nat) (x : Sc.Scr) (sts : List StV) (v : Value) (wr : World) : Prop where
 at_ : ScAt T wr X x v
 own : wr.ownsRow W.heap.size E 36 v sts.length (flat uC sts)
 st : sts.map (·.t) = x.steps
 inn : ∀ s ∈ sts, IN (fun b => Y b /\ v.ownBlock ≠ some b) wr s
 p16 : ∀ s ∈ sts, s.t.pf.addr.length = 16
 gr : W.grownBy wr (some X)
 XW : X < W.heap.size
 YX : ¬ Y X
theorem nC {w : World} {base : Nat} {e : TypeId} {size : Nat} {v : Value} {n : Nat} {xs : List Value} (h : w.ownsRow base e size v n xs) {g : Nat} (hg : v.ownBlock = some g) : base <= g /\ g < w.heap.size := by
 rcases h.2 with h0 | ⟨k, cap, cur, hv, hb, hk, r⟩
 ·rw [h0.1] at hg; simp [Value.ownBlock] at hg
 ·rw [hv] at hg
  simp only [Value.ownBlock, uX] at hg; subst hg; exact ⟨hb, (xB.1 hk).1⟩
theorem aS {w : World} {base : Nat} {e : TypeId} {size : Nat} {v : Value} {n : Nat} {xs : List Value} (h : w.ownsRow base e size v n xs) {X : Nat} (hX : X < base) : v.ownBlock ≠ some X := fun e => by
 have := nC h e; omega
theorem mO {w w' : World} {base : Nat} {e : TypeId} {size : Nat} {v : Value} {n : Nat} {xs : List Value} (h : w.ownsRow base e size v n xs) {ob : Option Nat} (hg : w.grownBy w' ob) (hX : ∀ X, ob = some X -> X < base) : w'.ownsRow base e size v n xs := by
 refine ⟨h.1, ?_⟩
 rcases h.2 with h0 | ⟨k, cap, cur, hv, hb, hk, r⟩
 ·exact .inl h0
 ·exact .inr ⟨k, cap, cur, hv, hb, by rw [hg.block k (xB.1 hk).1 (fun e => by have := hX k e.symm; omega)]; exact hk, r⟩
theorem fI : ∀ (vs : List Value) (w : World) (g o : Nat), w.grownBy (w.setCells g o vs) (some g)
 | [], w, g, o => jM _ _
 | v :: r, w, g, o => uK (vH w g o v) (fI r _ g (o + 1))
section
variable {T E : TypeId} {IN : (Nat -> Prop) -> World -> StV -> Prop} {Y : Nat -> Prop} {W wr w' : World} {X : Nat} {x : Sc.Scr} {sts : List StV} {v : Value}
theorem ScS.next (G : Good IN) (h : ScS T E IN Y W X x sts v wr) (hb : zW wr w') : ScS T E IN Y W X x sts v w' :=
 ⟨h.at_.next hb, vL h.own hb zn, h.st, fun s hs => G.below (h.inn s hs) hb, h.p16, kF h.gr (hb.mono h.gr.size), h.XW, h.YX⟩
theorem ScS.set (G : Good IN) (h : ScS T E IN Y W X x sts v wr) {y : Sc.Scr} (hg : wr.grownBy w' (some X)) (ha : ScAt T w' X y v) (hy : y.steps = x.steps) : ScS T E IN Y W X y sts v w' :=
 ⟨ha, mO h.own hg (fun k e => by cases e; exact h.XW), by rw [hy]; exact h.st, fun s hs => G.grown (h.inn s hs) hg (fun b hb e => by cases e; exact h.YX hb.1), h.p16, uK h.gr hg, h.XW, h.YX⟩
end
structure ScIn (IN : (Nat -> Prop) -> World -> StV -> Prop) (w : World) (x : Sc.Scr) (sts : List StV) (v : Value) : Prop where
 z : Sc.Sized x
 st : sts.map (·.t) = x.steps
 sl : SlR w 36 uC v sts
 inn : ∀ s ∈ sts, IN (fun _ => True) w s
 p16 : ∀ s ∈ sts, s.t.pf.addr.length = 16
def scrZ : Sc.Scr := ⟨0, 0, 0, List.replicate 4 0, List.replicate 16 0, []⟩
theorem ScIn.below {IN : (Nat -> Prop) -> World -> StV -> Prop} (G : Good IN) {w w' : World} {x : Sc.Scr} {sts : List StV} {v : Value} (h : ScIn IN w x sts v) (hb : zW w w') : ScIn IN w' x sts v := ⟨h.z, h.st, h.sl.below hb zn, fun s hs => G.below (h.inn s hs) hb, h.p16⟩
theorem ScIn.nil {IN : (Nat -> Prop) -> World -> StV -> Prop} {w : World} {x : Sc.Scr} (z : Sc.Sized x) (h : x.steps = []) : ScIn IN w x [] (.slice none 0 0) := ⟨z, by rw [h]; rfl, (SlP.nil (Pr := fun _ => True) w 36 uC).sl, (fun s hs => by cases hs), (fun s hs => by cases hs)⟩
theorem lI : Sc.Sized scrZ := ⟨rfl, rfl⟩
theorem scr0_z : Sc.Sized Sc.scr0 := ⟨rfl, rfl⟩
def RetScr (IN : (Nat -> Prop) -> World -> StV -> Prop) (o : Except (Int × Nat) Sc.Scr) (W : World) (e : Ending) (W' : World) : Prop :=
 ∃ (x : Sc.Scr) (sts : List StV) (v : Value) (c : Int) (n : Nat), e = .returned (.tuple #[.agg (scA x v), .int .i64 c, .int .i64 n]) /\ ScIn IN W' x sts v /\ zW W W' /\ (∀ y, o = .ok y -> x = y /\ c = 0 /\ n = 0) /\ (∀ k, o = .error k -> x = scrZ /\ c = k.1 /\ n = k.2)
open Go.Proofs.Tryz
def RetRoomsR (o : Option (Int × Int × Int)) (W : World) (e : Ending) (W' : World) : Prop := ∃ r, e = .returned (.tuple #[.agg (rmA r), .bool o.isSome]) /\ (∀ q, o = some q -> q = r) /\ zW W W'
theorem fT : (prog.info? 65).map (·.size) = some 3 := kf
theorem zeroM3 (w : World) : (zeroValue 65).run prog w = .ok (.agg (rmA (0, 0, 0))) w := kf
theorem rooms_eqD (x0 x1 x2 x3 : Hp.Wd) : Sc.roomsR [x0, x1, x2, x3] = if x0 = Sc.wRooms then (if 0 <= Sc.numD x1 /\ 0 <= Sc.numD x2 /\ 0 <= Sc.numD x3 then some (Sc.numD x1, Sc.numD x2, Sc.numD x3) else none) else none := by
 rw [show Sc.roomsR [x0, x1, x2, x3] = (if x0 = Sc.wRooms then (match Sc.num30 x1, Sc.num30 x2, Sc.num30 x3 with | some x, some y, some z => some (x, y, z) | _, _, _ => none) else none) from rfl]
 split
 ·unfold Sc.numD
  cases h1 : Sc.num30 x1 with
  | none => rw [zH (fun h => by have := h.1; simp at this)]
  |some a => cases h2 : Sc.num30 x2 with
   | none => rw [zH (fun h => by have := h.2.1; simp at this)]
   |some b => cases h3 : Sc.num30 x3 with
    | none => rw [zH (fun h => by have := h.2.2; simp at this)]
    | some c => rw [zN ⟨(Sc.num30_some h1).2.1, (Sc.num30_some h2).2.1, (Sc.num30_some h3).2.1⟩]
 ·rfl
theorem pM {w : World} {g : Nat} {t : TypeId} {a b c : Int} (h : Blk w g t (rmA (a, b, c))) : w.cell? ⟨g, 0, none⟩ = some (.int .i64 a) /\ w.cell? ⟨g, 1, none⟩ = some (.int .i64 b) /\ w.cell? ⟨g, 2, none⟩ = some (.int .i64 c) := ⟨h.cell 0, h.cell 1, h.cell 2⟩
theorem Blk.other_row {w : World} {g k : Nat} {t : TypeId} {cs ds : Array Value} (h : Blk w g t cs) (hne : k ≠ g) : Blk (w.setRow k ds) g t cs := h.grownO (uV _ _ _) (fun e => hne (vW e))
theorem r32_rooms (l : List Hp.Wd) (hl : l.length <= 1048576) (hx : ∀ x ∈ l, x.length <= 65536) (v : Value) (w : World) (hv : SlR w 1 encS v l) :
  Calls prog 39 #[v] w (RetRoomsR (Sc.roomsR l) w) := by
 obtain ⟨p, cap, rfl, h1, h2, hR⟩ := hv
 by_cases h4 : l.length = 4
 ·obtain ⟨x0, x1, x2, x3, rfl⟩ : ∃ a b c d, l = [a, b, c, d] := by
   match l, h4 with
   | [a, b, c, d], _ => exact ⟨a, b, c, d, rfl⟩
  have HR := qh fun W (hb : zW w W) => hR.below hb zn; obtain ⟨b, off, rfl, hbl, -⟩ := hR.at (i := 0) zi
  have HC : Hid (∀ W, zW w W -> W.cell? ⟨b, off, none⟩ = some (.string (str x0)) /\ W.cell? ⟨b, off + 1, none⟩ = some (.string (str x1)) /\ W.cell? ⟨b, off + 2, none⟩ = some (.string (str x2)) /\ W.cell? ⟨b, off + 3, none⟩ = some (.string (str x3))) := qh fun W hb => by
   have h := HR.o W hb; have c0 := h.in (i := 0) zi 0 _ rfl; have c1 := h.in (i := 1) zi 0 _ rfl; have c2 := h.in (i := 2) zi 0 _ rfl; have c3 := h.in (i := 3) zi 0 _ rfl; exact ⟨by simpa using c0, by simpa using c1, by simpa using c2, by simpa using c3⟩
  have htl := vX; have h1' := hx x1 zi; have h2' := hx x2 zi; have h3' := hx x3 zi; have HN1 := qh fun W => sO x1 om W; have HN2 := qh fun W => sO x2 om W; have HN3 := qh fun W => sO x3 om W; have HO := qh (rooms_eqD x0 x1 x2 x3); have b1 := oM x1; have b2 := oM x2; have b3 := oM x3; generalize Sc.roomsR [x0, x1, x2, x3] = o at *; generalize Sc.numD x1 = n1 at *; generalize Sc.numD x2 = n2 at *; generalize Sc.numD x3 = n3 at *; clear hR h4 hx h1' h2' h3' hl h1; obtain ⟨d0, d1, d2, d3⟩ := HC.o w zb
  by_cases h0 : x0 = Sc.wRooms
  ·have he : (x0 == ([114, 111, 111, 109, 115] : List UInt8)) = true := uP.2 h0
   have HO1 : Hid (o = if 0 <= n1 /\ 0 <= n2 /\ 0 <= n3 then some (n1, n2, n3) else none) := qh (by rw [HO.o, zN h0]); have HP : Hid (∀ q, o = some q -> q = (n1, n2, n3)) := qh fun q hq => by rw [HO1.o] at hq; split at hq <;> cases hq; rfl
   clear h0 HO; have HS : Hid (o.isSome = (decide (0 <= n1) && (decide (0 <= n2) && decide (0 <= n3)))) := qh (by rw [HO1.o]; by_cases q1 : 0 <= n1 <;> by_cases q2 : 0 <= n2 <;> by_cases q3 : 0 <= n3 <;> simp [q1, q2, q3])
   go_enter func39, ntmps39
   go_upto_region 3 with (refine zQ rfl 65 rf _ zeroM3 ?_; intro wz hwz; have HRZ : Hid (Blk wz w.heap.size 65 (rmA (0, 0, 0))) := (by rw [hwz]; exact qh (Blk.new _ _ _)); have HBZ : Hid (zW w wz) := (by rw [hwz]; exact qh (yD w _)); clear hwz; have hzz := HRZ.o.lt; clear d0 d1 d2 d3; obtain ⟨d0, d1, d2, d3⟩ := HC.o wz HBZ.o)
   clear d0 d1 d2 d3 HO1; have HBD : Hid (zW w wz.drew) := qh HBZ.o.drew; refine yB (S := fun W => zW w W) kf HBD.o (fun hHeld => ?_); refine kq 0 ?_; refine kq 4 ?_; refine kq 8 ?_; refine kq 1 ?_; refine kq 5 ?_; refine kq 9 ?_; refine kh 2 (fun w h => (HC.o w h).2.1) ?_; refine kh 6 (fun w h => (HC.o w h).2.2.1) ?_; refine kh 10 (fun w h => (HC.o w h).2.2.2) ?_; refine qK (i := 3) (v := .int .i64 n1) rfl kf kf kf (fun _ _ _ h => h) ⟨rf, fun w hSw => ⟨_, _, kf, HN1.o w⟩⟩ za ?_; simp only [qA, qB, qC, qD, qE, qF, qG]; refine qK (i := 7) (v := .int .i64 n2) rfl kf kf kf (fun _ _ _ h => h) ⟨rf, fun w hSw => ⟨_, _, kf, HN2.o w⟩⟩ za ?_; simp only [qA, qB, qC, qD, qE, qF, qG]; refine qK (i := 11) (v := .int .i64 n3) rfl kf kf kf (fun _ _ _ h => h) ⟨rf, fun w hSw => ⟨_, _, kf, HN3.o w⟩⟩ za ?_; simp only [qA, qB, qC, qD, qE, qF, qG]; refine kq 12 ?_; refine zS 13 fun K hK => ?_; go_simp; refine zK hK (hHeld.alloc hHeld.size _) fun hHeld => ?_; clear hK K; refine zS 14 fun K hK => ?_; refine lC _ _ _ rfl (wz.drew.heap.size) (rmA (n1, n2, n3)) rfl rfl _ (rmA (0, 0, 0)) (Blk.new wz.drew _ _) fT (rfl) (fJ _) ?_; refine zK hK (below_setRow (HBD.o.alloc HBD.o.size _) HBD.o.size _) fun hHeld => ?_; clear hK K; refine zD ?_; generalize hW5 : World.setRow _ _ _ = W5; have HX5 : Hid (Blk W5 wz.heap.size 65 (rmA (n1, n2, n3))) := by rw [← hW5]; exact qh ((Blk.new wz.drew _ _).setRow _)
   have HR5 : Hid (Blk W5 w.heap.size 65 (rmA (0, 0, 0))) := by rw [← hW5]; exact qh (((HRZ.o.below (xE wz.heap.size wz).drew hzz).alloc _).below (below_setRow (xE wz.heap.size _) zn _) hzz)
   have HB5 : Hid (zW w W5) := by rw [← hW5]; exact qh (below_setRow (HBD.o.alloc HBD.o.size _) HBD.o.size _)
   clear hW5 hHeld; have HXD := qh (HX5.o.below (xE W5.heap.size W5).drew HX5.o.lt); have HRD := qh (HR5.o.below (xE W5.heap.size W5).drew HR5.o.lt); have HBE : Hid (zW w W5.drew) := qh HB5.o.drew; have hne : w.heap.size ≠ wz.heap.size := om
   go_upto_region 4 with fail
   refine yB (S := fun W => Blk W wz.heap.size 65 (rmA (n1, n2, n3))) kf HXD.o (fun hHeld => ?_)
   by_cases q1 : 0 <= n1
   ·have e1 : decide (0 <= n1) = true := zV q1
    by_cases q2 : 0 <= n2
    ·have e2 : decide (0 <= n2) = true := zV q2
     obtain ⟨v3, e3⟩ : ∃ v, decide (0 <= n3) = v := ⟨_, rfl⟩; rw [e1, e2, e3, zAl, zAl] at HS; refine kY 0 rfl (zR rfl (wz.heap.size) rfl _ (rmA (n1, n2, n3)) _ (fun w h => h) underlying65 rfl fT) ?_; refine kq 1 ?_; refine kh 2 (fun w h => (pM h).1) ?_; refine kh 3 (fun w h => e1) ?_; refine kq 4 ?_; refine kq 5 ?_; refine kh 6 (fun w h => (pM h).2.1) ?_; refine kh 7 (fun w h => e2) ?_; refine kq 8 ?_; refine kq 9 ?_; refine kq 10 ?_; refine kh 11 (fun w h => (pM h).2.2) ?_; refine kh 12 (fun w h => e3) ?_; refine kq 13 ?_; refine zS 14 fun K hK => ?_; refine lC _ _ _ rfl (w.heap.size) (rmA (n1, n2, n3)) rfl rfl _ (rmA (0, 0, 0)) (HRD.o) fT (rfl) (fJ _) ?_; refine zK hK (hHeld.other_row hne) fun hHeld => ?_; clear hK K; refine kq 15 ?_; refine zD ?_
     go_wp2
     refine zC (results_cell_tmp rfl _ _ _ _ _ _ _ rfl (HRD.o.setRow (rmA (n1, n2, n3))) underlying65 rfl fT) rfl ⟨(n1, n2, n3), by rw [HS.o]; rfl, HP.o, below_setRow HBE.o zn _⟩
    ·have e2 : decide (0 <= n2) = false := zM q2
     rw [e1, e2, zAl, Bool.false_and] at HS; refine kY 0 rfl (zR rfl (wz.heap.size) rfl _ (rmA (n1, n2, n3)) _ (fun w h => h) underlying65 rfl fT) ?_; refine kq 1 ?_; refine kh 2 (fun w h => (pM h).1) ?_; refine kh 3 (fun w h => e1) ?_; refine kq 4 ?_; refine kq 5 ?_; refine kh 6 (fun w h => (pM h).2.1) ?_; refine kh 7 (fun w h => e2) ?_; refine kq 8 ?_; refine kq 9 ?_; refine tn 10 ?_; refine tn 11 ?_; refine tn 12 ?_; refine kq 13 ?_; refine zS 14 fun K hK => ?_; refine lC _ _ _ rfl (w.heap.size) (rmA (n1, n2, n3)) rfl rfl _ (rmA (0, 0, 0)) (HRD.o) fT (rfl) (fJ _) ?_; refine zK hK (hHeld.other_row hne) fun hHeld => ?_; clear hK K; refine kq 15 ?_; refine zD ?_
     go_wp2
     refine zC (results_cell_tmp rfl _ _ _ _ _ _ _ rfl (HRD.o.setRow (rmA (n1, n2, n3))) underlying65 rfl fT) rfl ⟨(n1, n2, n3), by rw [HS.o]; rfl, HP.o, below_setRow HBE.o zn _⟩
   ·have e1 : decide (0 <= n1) = false := zM q1
    rw [e1, Bool.false_and] at HS; refine kY 0 rfl (zR rfl (wz.heap.size) rfl _ (rmA (n1, n2, n3)) _ (fun w h => h) underlying65 rfl fT) ?_; refine kq 1 ?_; refine kh 2 (fun w h => (pM h).1) ?_; refine kh 3 (fun w h => e1) ?_; refine kq 4 ?_; refine tn 5 ?_; refine tn 6 ?_; refine tn 7 ?_; refine kq 8 ?_; refine kq 9 ?_; refine tn 10 ?_; refine tn 11 ?_; refine tn 12 ?_; refine kq 13 ?_; refine zS 14 fun K hK => ?_; refine lC _ _ _ rfl (w.heap.size) (rmA (n1, n2, n3)) rfl rfl _ (rmA (0, 0, 0)) (HRD.o) fT (rfl) (fJ _) ?_; refine zK hK (hHeld.other_row hne) fun hHeld => ?_; clear hK K; refine kq 15 ?_; refine zD ?_
    go_wp2
    refine zC (results_cell_tmp rfl _ _ _ _ _ _ _ rfl (HRD.o.setRow (rmA (n1, n2, n3))) underlying65 rfl fT) rfl ⟨(n1, n2, n3), by rw [HS.o]; rfl, HP.o, below_setRow HBE.o zn _⟩
  ·have he : (x0 == ([114, 111, 111, 109, 115] : List UInt8)) = false := yF.2 h0
   have HON : Hid (o = none) := qh (by rw [HO.o, zH h0]); clear h0 HO
   go_enter func39, ntmps39
   go_wp2_with (first
    | (refine zQ rfl 65 rf _ zeroM3 ?_; intro wz hwz; have HRZ : Hid (Blk wz w.heap.size 65 (rmA (0, 0, 0))) := (by rw [hwz]; exact qh (Blk.new _ _ _)); have HBZ : Hid (zW w wz) := (by rw [hwz]; exact qh (yD w _)); clear hwz; clear d0 d1 d2 d3; obtain ⟨d0, d1, d2, d3⟩ := HC.o wz HBZ.o)
    | (refine zJ rfl _ (.tmp 2) (.tmp 14) rfl w.heap.size (rmA (0, 0, 0)) rf rf _ _ HRZ.o fT rfl (fJ _) ?_; intro w8 hw8; have HR8 : Hid (Blk w8 w.heap.size 65 (rmA (0, 0, 0))) := (by rw [hw8]; exact qh (HRZ.o.setRow _)); have HB8 : Hid (zW w w8) := (by rw [hw8]; exact qh (below_setRow HBZ.o zn _)); clear hw8))
   exact zC (results_cell_tmp rfl _ _ _ _ _ _ _ rfl HR8.o underlying65 rfl fT) rfl ⟨(0, 0, 0), by rw [HON.o]; rfl, (fun q h => by rw [HON.o] at h; cases h), HB8.o⟩
 ·have hn : ((l.length : Int) != 4) = true := by simp only [jZ, qR]; omega
  have HON := qh (rooms_none h4); clear h4
  go_enter func39, ntmps39
  go_wp2_with (first
   | (refine zQ rfl 65 rf _ zeroM3 ?_; intro wz hwz; have HRZ : Hid (Blk wz w.heap.size 65 (rmA (0, 0, 0))) := (by rw [hwz]; exact qh (Blk.new _ _ _)); have HBZ : Hid (zW w wz) := (by rw [hwz]; exact qh (yD w _)); clear hwz)
   | (refine zJ rfl _ (.tmp 2) (.tmp 14) rfl w.heap.size (rmA (0, 0, 0)) rf rf _ _ HRZ.o fT rfl (fJ _) ?_; intro w8 hw8; have HR8 : Hid (Blk w8 w.heap.size 65 (rmA (0, 0, 0))) := (by rw [hw8]; exact qh (HRZ.o.setRow _)); have HB8 : Hid (zW w w8) := (by rw [hw8]; exact qh (below_setRow HBZ.o zn _)); clear hw8))
  exact zC (results_cell_tmp rfl _ _ _ _ _ _ _ rfl HR8.o underlying65 rfl fT) rfl ⟨(0, 0, 0), by rw [HON.o]; rfl, (fun q h => by rw [HON.o] at h; cases h), HB8.o⟩
theorem eq_b4_at (d : Nat) {a b : List UInt8} (ha : a.length = 4) (hb : b.length = 4) (w : World) : (Op.equalIn (d + 2) 56 (.agg (arrB a)) (.agg (arrB b))).run prog w = .ok (decide (a = b)) w := by
 have hi : ∃ i, prog.info? 5 = some i := by
  have h : (prog.info? 5).isSome = true := kf; exact Option.isSome_iff_exists.1 h
 obtain ⟨i, hi⟩ := hi; have h := run_equalIn_array (P := prog) (w := w) (d + 1) (arrB a) (arrB b) underlying56 hi; rw [show prog.cellsOf 5 = 1 from kf] at h; rw [h]
 have h2 := lY (P := prog) (e := 5) (d := d + 1) (fun c : UInt8 => Value.int .u8 (c.toNat : Int)) (fun cs off v w hv => by simp [part, isAgg5, hv])
  (fun x y w => by
   rw [run_equalIn_int w d 5 .u8 .u8 _ _ underlying5]
   congr 1
   rw [rV]; simp only [uP, xP]
   constructor
   ·intro h; exact uH.1 (zAm h)
   ·rintro rfl; rfl) a b (List.range 4) w (by intro j hj; simp at hj; omega)
 unfold arrB; rw [h2]
 congr 1
 exact decide_eq_decide.2 (range_eq ha hb)
theorem slA_four {a b : List UInt8} (ha : a.length = 4) : (slA a b).extract 0 (0 + 4) = arrB a := by
 unfold slA arrB; rw [jT, List.extract_toArray, zGc, xU]; have : (0 + 4 - 0 : Nat) = (a.map fun c => Value.int .u8 (c.toNat : Int)).length := by rw [yX, ha]
 rw [this, zDn]
theorem slA_six {a b : List UInt8} (ha : a.length = 4) (hb : b.length = 16) : (slA a b).extract 4 (4 + 16) = arrB b := by
 unfold slA arrB; rw [jT, List.extract_toArray, zGc]; have : (4 : Nat) = (a.map fun c => Value.int .u8 (c.toNat : Int)).length := by rw [yX, ha]
 conv => lhs; arg 1; arg 2; rw [this, List.drop_left]
 rw [xY (by rw [yX, hb]; decide)]
theorem eq_slM {a b c d : List UInt8} (ha : a.length = 4) (hb : b.length = 16) (hc : c.length = 4) (hd : d.length = 16) (w : World) : (Op.equalIn 10000 66 (.agg (slA a b)) (.agg (slA c d))).run prog w = .ok (decide ((a, b) = (c, d))) w := by
 rw [run_equalIn_struct w 9999 66 _ _ kf kf]; have hf : ((prog.fieldsOf 66).toList.map fun f => (decide (f.name ≠ "_"), f.type, f.offset)) = [(true, 56, 0), (true, 24, 4)] := kf; generalize (prog.fieldsOf 66).toList = fs at hf ⊢; have s1 := fun w => lK isAgg56 info4B _ _ _ (slA_four (b := b) ha) w; have s2 := fun w => lK isAgg24 zGq _ _ _ (slA_six ha hb) w; have s3 := fun w => lK isAgg56 info4B _ _ _ (slA_four (b := d) hc) w; have s4 := fun w => lK isAgg24 zGq _ _ _ (slA_six hc hd) w; have hlen : fs.length = 2 := by have := yG List.length hf; simpa using this
 obtain ⟨f1, f2, rfl⟩ : ∃ a b, fs = [a, b] := by
  clear hf
  match fs, hlen with
  | [a, b], _ => exact ⟨a, b, rfl⟩
 clear hlen; simp only [yM, xH, rY, rZ, xP, pQ] at hf; obtain ⟨⟨n1, t1, o1⟩, n2, t2, o2⟩ := hf; have e1 := fun w => eq_b4_at 9997 ha hc w; have e2 := fun w => lT 9997 hb hd w; simp only [Op.eqFields, zN n1, zN n2, t1, t2, o1, o2, kS, s1, s2, s3, s4, jA, e1, e2, Sem.run_ite, qN]
 by_cases h1 : a = c
 ·by_cases h2 : b = d
  ·simp [h1, h2]
  ·simp [h1, h2]
 ·simp [h1]
theorem run_rmM (r q : Int × Int × Int) (w : World) : (Op.equalIn 10000 65 (.agg (rmA r)) (.agg (rmA q))).run prog w = .ok (decide (r = q)) w := by
 have u3 := underlying3; have a3 := isAgg3; have z3 := sizeOf3; have hS : prog.underlying 65 = some (.struct (prog.fieldsOf 65)) := kf; have hp : prog.stoodInHeld 65 = false := kf; obtain ⟨a, b, c⟩ := r; obtain ⟨d, e, f⟩ := q; unfold rmA; rw [show (10000 : Nat) = 9999 + 1 from rfl, zDj w 9999 65 _ _ hS hp]; simp only [Program.fieldsOf, underlying65]; go_simp
 by_cases h1 : a = d <;> by_cases h2 : b = e <;> by_cases h3 : c = f <;> simp [h1, h2, h3]
structure TAt (w : World) (X : Nat) (s : StV) : Prop where
 b : Blk w X 46 (zY s)
 p16 : s.t.pf.addr.length = 16
namespace TAt
variable {w : World} {X : Nat} {s : StV}
theorem lt (h : TAt w X s) : X < w.heap.size := h.b.lt
theorem pf (h : TAt w X s) : w.rangeAt X 7 (pfL s.t.pf) := by
 have hb := h.b; unfold zY at hb; rw [sp_pf] at hb; exact hb.rng rfl
theorem hop (h : TAt w X s) : w.rangeAt X 25 (hopL s.t.hop s.vl s.vr) := by
 have hb := h.b; unfold zY at hb; rw [sp_hop] at hb; exact hb.rng (by simp [preL, bT])
theorem post (h : TAt w X s) : w.rangeAt X 31 (sD s.t s.vw s.vb) := by
 have hb := h.b; unfold zY at hb; rw [zGs] at hb; exact hb.rng (pre_len s).symm
theorem pre (h : TAt w X s) : w.rangeAt X 0 (preL s.t) := by
 have hb := h.b; unfold zY at hb; exact Blk.rng (A := []) hb rfl
theorem c0 (h : TAt w X s) : w.cell? ⟨X, 0, none⟩ = some (.bool s.t.is) := h.pre 0 _ rfl
theorem c1 (h : TAt w X s) : w.cell? ⟨X, 1, none⟩ = some (.int .i64 s.t.kind) := h.pre 1 _ rfl
theorem c2 (h : TAt w X s) : w.cell? ⟨X, 2, none⟩ = some (.int .i64 s.t.a) := h.pre 2 _ rfl
theorem c3 (h : TAt w X s) : w.cell? ⟨X, 3, none⟩ = some (.int .i64 s.t.n) := h.pre 3 _ rfl
theorem c4 (h : TAt w X s) : w.cell? ⟨X, 4, none⟩ = some (.int .i64 s.t.owner) := h.pre 4 _ rfl
theorem c5 (h : TAt w X s) : w.cell? ⟨X, 5, none⟩ = some (.int .i64 s.t.s1) := h.pre 5 _ rfl
theorem c6 (h : TAt w X s) : w.cell? ⟨X, 6, none⟩ = some (.int .i64 s.t.s2) := h.pre 6 _ rfl
theorem c31 (h : TAt w X s) : w.cell? ⟨X, 31, none⟩ = some s.vw := h.post 0 _ rfl
theorem c32 (h : TAt w X s) : w.cell? ⟨X, 32, none⟩ = some (.string (str s.t.text)) := h.post 1 _ rfl
theorem c33 (h : TAt w X s) : w.cell? ⟨X, 33, none⟩ = some (.int .i64 s.t.port) := h.post 2 _ rfl
theorem c34 (h : TAt w X s) : w.cell? ⟨X, 34, none⟩ = some (.bool s.t.mpls) := h.post 3 _ rfl
theorem c35 (h : TAt w X s) : w.cell? ⟨X, 35, none⟩ = some s.vb := h.post 4 _ rfl
theorem fz (h : TAt w X s) (i : Nat) : w.frozen? ⟨X, i, none⟩ = false := h.b.frozen' i
theorem th (h : TAt w X s) {o n : Nat} (hn : o + n <= 36) : w.there X o n := h.b.th (by rw [zO]; exact hn)
theorem below (h : TAt w X s) {w' : World} {B : Nat} (hb : Below B w w') (hX : X < B) : TAt w' X s := ⟨h.b.below hb hX, h.p16⟩
theorem next (h : TAt w X s) {w' : World} (hb : zW w w') : TAt w' X s := h.below hb h.lt
theorem grown (h : TAt w X s) {w' : World} {g : Nat} (hg : w.grownBy w' (some g)) (hne : X ≠ g) : TAt w' X s := ⟨h.b.grown hg hne, h.p16⟩
theorem alloc (h : TAt w X s) (o : Obj) : TAt (w.alloc o) X s := ⟨h.b.alloc o, h.p16⟩
end TAt
theorem TAt.grownO {w w' : World} {X : Nat} {s : StV} (h : TAt w X s) {ob : Option Nat} (hg : w.grownBy w' ob) (hne : ob ≠ some X) : TAt w' X s := ⟨h.b.grownO hg hne, h.p16⟩
def oPre (t : Sc.Stp) : List Value := [.int .i64 t.kind, .int .i64 t.a, .int .i64 t.n, .int .i64 t.owner]
def oSp (t : Sc.Stp) : List Value := [.int .i64 t.s1, .int .i64 t.s2]
def oL (s : StV) : List Value := oPre s.t ++ (oSp s.t ++ (pfL s.t.pf ++ (hopL s.t.hop s.vl s.vr ++ ([s.vw] ++ ([.string (str s.t.text)] ++ [])))))
def oA (s : StV) : Array Value := (oL s).toArray
theorem oL_len (s : StV) : (oL s).length = 32 := by simp [oL, oPre, oSp, bT, hopL]
theorem kI (s : StV) : (oA s).size = 32 := by simp [oA, oL_len]
theorem zGn (s : StV) : uC s = [.bool s.t.is] ++ (oL s ++ ([.int .i64 s.t.port, .bool s.t.mpls, s.vb] ++ [])) := by simp [uC, oL, preL, oPre, oSp, sD]
theorem TAt.op {w : World} {X : Nat} {s : StV} (h : TAt w X s) : w.rangeAt X 1 (oL s) := by
 have hb := h.b; unfold zY at hb; rw [zGn] at hb; exact hb.rng rfl
theorem TAt.pk {w : World} {X : Nat} {s : StV} (h : TAt w X s) : w.rangeAt X 33 [.int .i64 s.t.port, .bool s.t.mpls, s.vb] := by
 have hb := h.b; unfold zY at hb; rw [zGn, ← xQ] at hb; exact hb.rng (by rw [zG, oL_len]; rfl)
structure OAt (w : World) (X : Nat) (s : StV) : Prop where
 b : Blk w X 42 (oA s)
 p16 : s.t.pf.addr.length = 16
namespace OAt
variable {w : World} {X : Nat} {s : StV}
theorem lt (h : OAt w X s) : X < w.heap.size := h.b.lt
theorem e6 (s : StV) : oL s = (oPre s.t ++ oSp s.t) ++ (pfL s.t.pf ++ (hopL s.t.hop s.vl s.vr ++ ([s.vw] ++ ([.string (str s.t.text)] ++ [])))) := by simp [oL]
theorem e24 (s : StV) : oL s = (oPre s.t ++ (oSp s.t ++ pfL s.t.pf)) ++ (hopL s.t.hop s.vl s.vr ++ ([s.vw] ++ ([.string (str s.t.text)] ++ []))) := by simp [oL]
theorem e30 (s : StV) : oL s = (oPre s.t ++ (oSp s.t ++ (pfL s.t.pf ++ hopL s.t.hop s.vl s.vr))) ++ ([s.vw] ++ ([.string (str s.t.text)] ++ [])) := by simp [oL]
theorem e31 (s : StV) : oL s = (oPre s.t ++ (oSp s.t ++ (pfL s.t.pf ++ (hopL s.t.hop s.vl s.vr ++ [s.vw])))) ++ ([.string (str s.t.text)] ++ []) := by simp [oL]
theorem l6 (t : Sc.Stp) : (oPre t ++ oSp t).length = 6 := rfl
theorem l24 (t : Sc.Stp) : (oPre t ++ (oSp t ++ pfL t.pf)).length = 24 := by simp [oPre, oSp, bT]
theorem l30 (s : StV) : (oPre s.t ++ (oSp s.t ++ (pfL s.t.pf ++ hopL s.t.hop s.vl s.vr))).length = 30 := by simp [oPre, oSp, bT, hopL]
theorem l31 (s : StV) : (oPre s.t ++ (oSp s.t ++ (pfL s.t.pf ++ (hopL s.t.hop s.vl s.vr ++ [s.vw])))).length = 31 := by simp [oPre, oSp, bT, hopL]
theorem pre (h : OAt w X s) : w.rangeAt X 0 (oPre s.t) := by
 have hb := h.b; unfold oA at hb; exact Blk.rng (A := []) hb rfl
theorem sp (h : OAt w X s) : w.rangeAt X 4 (oSp s.t) := by
 have hb := h.b; unfold oA at hb; exact hb.rng rfl
theorem pf (h : OAt w X s) : w.rangeAt X 6 (pfL s.t.pf) := by
 have hb := h.b; unfold oA at hb; rw [e6] at hb; exact hb.rng (l6 _).symm
theorem hop (h : OAt w X s) : w.rangeAt X 24 (hopL s.t.hop s.vl s.vr) := by
 have hb := h.b; unfold oA at hb; rw [e24] at hb; exact hb.rng (l24 _).symm
theorem wys (h : OAt w X s) : w.rangeAt X 30 [s.vw] := by
 have hb := h.b; unfold oA at hb; rw [e30] at hb; exact hb.rng (l30 _).symm
theorem txt (h : OAt w X s) : w.rangeAt X 31 [.string (str s.t.text)] := by
 have hb := h.b; unfold oA at hb; rw [e31] at hb; exact hb.rng (l31 _).symm
theorem c0 (h : OAt w X s) : w.cell? ⟨X, 0, none⟩ = some (.int .i64 s.t.kind) := h.pre 0 _ rfl
theorem c1 (h : OAt w X s) : w.cell? ⟨X, 1, none⟩ = some (.int .i64 s.t.a) := h.pre 1 _ rfl
theorem c2 (h : OAt w X s) : w.cell? ⟨X, 2, none⟩ = some (.int .i64 s.t.n) := h.pre 2 _ rfl
theorem c3 (h : OAt w X s) : w.cell? ⟨X, 3, none⟩ = some (.int .i64 s.t.owner) := h.pre 3 _ rfl
theorem c4 (h : OAt w X s) : w.cell? ⟨X, 4, none⟩ = some (.int .i64 s.t.s1) := h.sp 0 _ rfl
theorem c5 (h : OAt w X s) : w.cell? ⟨X, 5, none⟩ = some (.int .i64 s.t.s2) := h.sp 1 _ rfl
theorem c30 (h : OAt w X s) : w.cell? ⟨X, 30, none⟩ = some s.vw := h.wys 0 _ rfl
theorem c31 (h : OAt w X s) : w.cell? ⟨X, 31, none⟩ = some (.string (str s.t.text)) := h.txt 0 _ rfl
theorem fz (h : OAt w X s) (i : Nat) : w.frozen? ⟨X, i, none⟩ = false := h.b.frozen' i
theorem th (h : OAt w X s) {o n : Nat} (hn : o + n <= 32) : w.there X o n := h.b.th (by rw [kI]; exact hn)
theorem below (h : OAt w X s) {w' : World} {B : Nat} (hb : Below B w w') (hX : X < B) : OAt w' X s := ⟨h.b.below hb hX, h.p16⟩
theorem next (h : OAt w X s) {w' : World} (hb : zW w w') : OAt w' X s := h.below hb h.lt
theorem grownO (h : OAt w X s) {w' : World} {ob : Option Nat} (hg : w.grownBy w' ob) (hne : ob ≠ some X) : OAt w' X s := ⟨h.b.grownO hg hne, h.p16⟩
theorem setA (h : OAt w X s) (n : Int) : OAt (w.setCell ⟨X, 1, none⟩ (.int .i64 n)) X { s with t := { s.t with a := n } } :=
 ⟨Blk.mid1 (A := [.int .i64 s.t.kind]) (m := .int .i64 s.t.a) (B := _) h.b rfl, h.p16⟩
theorem setN (h : OAt w X s) (n : Int) : OAt (w.setCell ⟨X, 2, none⟩ (.int .i64 n)) X { s with t := { s.t with n := n } } :=
 ⟨Blk.mid1 (A := [.int .i64 s.t.kind, .int .i64 s.t.a]) (m := .int .i64 s.t.n) (B := _) h.b rfl, h.p16⟩
theorem setO (h : OAt w X s) (n : Int) : OAt (w.setCell ⟨X, 3, none⟩ (.int .i64 n)) X { s with t := { s.t with owner := n } } :=
 ⟨Blk.mid1 (A := [.int .i64 s.t.kind, .int .i64 s.t.a, .int .i64 s.t.n]) (m := .int .i64 s.t.owner) (B := _) h.b rfl, h.p16⟩
theorem setMid (h : OAt w X s) (s' : StV) {A M B vs : List Value} (e : oL s = A ++ (M ++ B)) (e' : oL s' = A ++ (vs ++ B)) (hl : M.length = vs.length) (hp : s'.t.pf.addr.length = 16) {o : Nat} (ho : o = A.length) : OAt (w.setCells X o vs) X s' := by
 have hb := h.b; unfold oA at hb; rw [e] at hb; refine ⟨?_, hp⟩; unfold oA; rw [e']; exact Blk.mid hb hl ho
theorem setS (h : OAt w X s) (m n : Int) : OAt (w.setCells X 4 [.int .i64 m, .int .i64 n]) X { s with t := { s.t with s1 := m, s2 := n } } :=
 h.setMid { s with t := { s.t with s1 := m, s2 := n } } (A := oPre s.t) (M := oSp s.t) (vs := [.int .i64 m, .int .i64 n]) (B := pfL s.t.pf ++ (hopL s.t.hop s.vl s.vr ++ ([s.vw] ++ ([.string (str s.t.text)] ++ [])))) rfl rfl rfl h.p16 rfl
theorem setP (h : OAt w X s) {p : Pf} (hp : p.addr.length = 16) : OAt (w.setCells X 6 (pfA p).toList) X { s with t := { s.t with pf := p } } := by
 have e : (pfA p).toList = pfL p := by rw [← zDz hp]
 rw [e]; exact h.setMid { s with t := { s.t with pf := p } } (e6 s) (e6 { s with t := { s.t with pf := p } }) (by rw [bT, bT]) hp (l6 _).symm
theorem setH (h : OAt w X s) (p : Hp.Hop) (l r : Value) : OAt (w.setCells X 24 (hopA p l r).toList) X { s with t := { s.t with hop := p }, vl := l, vr := r } :=
 h.setMid { s with t := { s.t with hop := p }, vl := l, vr := r } (e24 s) (e24 { s with t := { s.t with hop := p }, vl := l, vr := r }) rfl h.p16 (l24 _).symm
theorem setW (h : OAt w X s) (ws : List (Int × Int)) (v : Value) : OAt (w.setCell ⟨X, 30, none⟩ v) X { s with t := { s.t with ways := ws }, vw := v } :=
 h.setMid { s with t := { s.t with ways := ws }, vw := v } (vs := [v]) (e30 s) (e30 { s with t := { s.t with ways := ws }, vw := v }) rfl h.p16 (l30 _).symm
theorem setT (h : OAt w X s) (x : List UInt8) : OAt (w.setCell ⟨X, 31, none⟩ (.string (str x))) X { s with t := { s.t with text := x } } :=
 h.setMid { s with t := { s.t with text := x } } (vs := [.string (str x)]) (e31 s) (e31 { s with t := { s.t with text := x } }) rfl h.p16 (l31 _).symm
end OAt
def svD (t : Sc.Stp) : StV := ⟨t, .slice none 0 0, .slice none 0 0, .slice none 0 0, .string (str t.bytes)⟩
theorem bG {q : Nat -> Prop} {w : World} {t : Sc.Stp} (h1 : t.hop = Sc.hop0) (h2 : t.ways = []) : vG q w (svD t) := ⟨by show SlP q w 1 encI _ t.hop.labels; rw [h1]; exact SlP.nil _ _ _, by show SlP q w 1 encI _ t.hop.repair; rw [h1]; exact SlP.nil _ _ _, by show SlP q w 2 aV _ t.ways; rw [h2]; exact SlP.nil _ _ _, rfl⟩
theorem kZ : (prog.info? 46).map (·.size) = some 36 := kf
theorem infoTZ : ((prog.info? 46).bind (·.zero)).map (·.cells.size) = some 36 := kf
theorem lX : (prog.info? 42).map (·.size) = some 32 := kf
theorem zAi (w : World) : (zeroValue 46).run prog w = .ok (.agg (zY (svD Sc.z))) w := kf
theorem oU (w : World) : (zeroValue 42).run prog w = .ok (.agg (oA (svD Sc.z))) w := kf
theorem oA_one {s : StV} (h1 : s.vl.oneCell' = true) (h2 : s.vr.oneCell' = true) (h3 : s.vw.oneCell' = true) : (oA s).all (·.oneCell') = true := by
 refine sV fun v hv => ?_; simp only [oL, oPre, oSp, pfL, hopL, uS, yC, yJ, xQ, yR, xR, vB, jV, mW] at hv
 rcases hv with rfl | rfl | rfl | rfl | rfl | rfl | rfl | ⟨c, -, rfl⟩ | rfl | rfl | rfl | rfl | rfl | rfl | rfl | rfl | rfl
 all_goals first | rfl | assumption
theorem buildTO {s : StV} (hp : s.t.pf.addr.length = 16) (w : World) : (Instr.build 46 #[(1, .agg (oA s))]).run prog w = .ok (.agg (zY { s with t := { s.t with is := false, port := 0, mpls := false, bytes := [] }, vb := .string (str []) })) w := by
 obtain ⟨⟨i, k, a, n, o, s1, s2, ⟨six, ad, ln⟩, hop, ws, tx, q, m, b⟩, vl, vr, vw, vb⟩ := s; simp only at hp; obtain ⟨b0, b1, b2, b3, b4, b5, b6, b7, b8, b9, b10, b11, b12, b13, b14, b15, rfl⟩ := aJ hp
 kernel_rfl
structure TwoD (W : World) (a b : StV) (g k : Nat) (w : World) : Prop where
 A : TAt w g a
 B : TAt w k b
 bel : zW W w
 ok : vG (fun _ => True) W a /\ a.t.pf.addr.length = 16
 ok2 : vG (fun _ => True) W b /\ b.t.pf.addr.length = 16
theorem TwoD.next {W w w' : World} {a b : StV} {g k : Nat} (h : TwoD W a b g k w) (hb : zW w w') : TwoD W a b g k w' := ⟨h.A.next hb, h.B.next hb, h.bel.trans (hb.mono h.bel.size), h.ok, h.ok2⟩
theorem TAt.pfA {w : World} {X : Nat} {s : StV} (h : TAt w X s) : w.rangeAt X 7 (pfA s.t.pf).toList := by
 rw [← zDz h.p16]; exact h.pf
theorem run_pk (p q : Int) (m n : Bool) (x y : List UInt8) (w : World) : (Op.equalIn 10000 44 (.agg #[.int .i64 p, .bool m, .string (str x)]) (.agg #[.int .i64 q, .bool n, .string (str y)])).run prog w = .ok (decide ((p, m, x) = (q, n, y))) w := by
 have u3 := underlying3; have a3 := isAgg3; have z3 := sizeOf3; have u4 := underlying4; have a4 := isAgg4; have z4 := sizeOf4; have u9 := underlying9; have a9 := isAgg9; have z9 := sizeOf9; have htl := vX; have hS : prog.underlying 44 = some (.struct (prog.fieldsOf 44)) := kf; have hp : prog.stoodInHeld 44 = false := kf; rw [show (10000 : Nat) = 9999 + 1 from rfl, zDj w 9999 44 _ _ hS hp]; simp only [Program.fieldsOf, underlying44]; go_simp
 by_cases h1 : p = q <;> by_cases h2 : m = n <;> by_cases h3 : x = y <;> simp [h1, h2, h3]
theorem lN (n : Int) (hn : I64 n) (w : World) :
  zCQ 44 #[.int .i64 n] w (.string (str (Lib.itoa n))) := by
 have HD := qh (sP n hn w)
 go_enter func44, ntmps44
 go_wp2_with fail
 refine zU HD.o ?_
 go_wp2
 go_ret
 exact ⟨rfl, rfl⟩
theorem fields_of : ∀ k, k < 16 -> (Sc.fieldsL.getD k []).length <= 3 /\ ∀ c ∈ Sc.fieldsL.getD k [], c = 65 ∨ c = 78 ∨ c = 79 := zd
theorem uW {n : Int} (h : I64 n) : (Lib.itoa n).length <= 30 := by have := Lib.itoa_length_le n h.1 h.2; omega
theorem nums_le {t : Sc.Stp} (h1 : I64 t.a) (h2 : I64 t.n) (h3 : I64 t.owner) : ∀ f : List UInt8, (Sc.numsD f t).length <= 31 * f.length
 | [] => by simp [Sc.numsD]
 |c :: f => by
  have ih := nums_le h1 h2 h3 f; unfold Sc.numsD at ih ⊢; rw [vT, zG, zI, zI]
  have : (Lib.itoa (Sc.getD' c t)).length <= 30 := by
   unfold Sc.getD'
   split
   ·exact uW h1
   ·split
    ·exact uW h2
    ·exact uW h3
  omega
theorem r32_numbers (s : StV) (k : Nat) (hk : k < 16) (hkd : s.t.kind = (k : Int)) (p16 : s.t.pf.addr.length = 16) (ha : I64 s.t.a) (hn : I64 s.t.n) (ho : I64 s.t.owner) (w : World) :
  zCB 76 #[.agg (oA s)] w (.string (str (Sc.numsD (Sc.fieldsL.getD k []) s.t))) := by
 have HO0 : Hid (∀ w1, w1 = w.alloc (.cells (oA s) 42) -> OAt w1 w.heap.size s /\ zW w w1) := qh fun w1 h => by subst h; exact ⟨⟨Blk.new _ _ _, p16⟩, yD _ _⟩
 have HF := qh fun W => r32_fields k hk W; obtain ⟨hfl, hfc⟩ := fields_of k hk; have HFC := qh hfc; have HLE := qh (nums_le ha hn ho); have HA := qh fun W => lN s.t.a ha W; have HN := qh fun W => lN s.t.n hn W; have HW := qh fun W => lN s.t.owner ho W; have HLA := qh (uW ha); have HLN := qh (uW hn); have HLO := qh (uW ho); have hA : ∀ x y : List UInt8, str x ++ (⟨#[32]⟩ ++ str y) = str (x ++ 32 :: y) := fun x y => by rw [show (⟨#[32]⟩ : ByteArray) = str [32] from rfl, xJ, xJ]; simp
 have HG65 : Hid (∀ f : List UInt8, Sc.numsD (f ++ [65]) s.t = Sc.numsD f s.t ++ 32 :: Lib.itoa s.t.a) := qh fun f => by unfold Sc.numsD; rw [uI]; simp [Sc.getD']
 have HG78 : Hid (∀ f : List UInt8, Sc.numsD (f ++ [78]) s.t = Sc.numsD f s.t ++ 32 :: Lib.itoa s.t.n) := qh fun f => by unfold Sc.numsD; rw [uI]; simp [Sc.getD']
 have HG79 : Hid (∀ f : List UInt8, Sc.numsD (f ++ [79]) s.t = Sc.numsD f s.t ++ 32 :: Lib.itoa s.t.owner) := qh fun f => by unfold Sc.numsD; rw [uI]; simp [Sc.getD']
 have HN0 : Hid (Sc.numsD [] s.t = []) := qh rfl; have HKD := qh hkd; generalize Sc.fieldsL.getD k [] = f at *; obtain ⟨N, HNN⟩ : ∃ N : List UInt8 -> List UInt8, Hid (∀ f, Sc.numsD f s.t = N f) := ⟨_, qh fun _ => rfl⟩; simp only [HNN.o] at HLE HG65 HG78 HG79 HN0 ⊢; clear hfc ha hn ho p16 hkd HNN
 go_enter func76, ntmps76
 go_wp2_with (refine yS rfl _ (.tmp 0) rf (oA s) rf ?_; intro w1 E1; have HO1 := qh (HO0.o w1 E1); clear E1; have c0 := HO1.o.1.c0; rw [HKD.o] at c0)
 refine zT (HF.o _) fun w2 hb2 => ?_; have HO2 := qh (HO1.o.1.next hb2); have HB2 := qh (HO1.o.2.trans (hb2.mono HO1.o.2.size)); clear hb2 c0; have hsz : (str f).size = f.length := zZ f; go_wp2_with fail
 go_loopw [3, 5] (fun vs vi wr => ∃ j : Nat, vi = .int .i64 j /\ j <= f.length /\ vs = .string (str (N (f.take j))) /\ Hid (wr = w2)) (fun _ vi _ => f.length - (intOf vi).toNat)
 case atStart => exact ⟨0, rfl, yQ _, by rw [pU, HN0.o]; rfl, qh rfl⟩
 case round =>
  obtain ⟨j, rfl, hj, rfl, HWR⟩ := hrel; have hwr := HWR.o; subst hwr
  by_cases hlt : j < f.length
  ·obtain ⟨c, hc⟩ : ∃ c, f[j] = c := ⟨_, rfl⟩
   have hg : ∀ h, (str f)[j]'h = c := fun h => by rw [jS, hc]
   have hcc := HFC.o c (by rw [← hc]; exact yU hlt); have HTK : Hid (f.take (j + 1) = f.take j ++ [c]) := qh (by rw [← hc]; exact yA hlt); have hle := HLE.o (f.take j); have hlj : (f.take j).length <= 3 := by rw [yV]; omega
   have z1 : (str (N (f.take j))).size <= 100 := by rw [zZ]; omega
   clear hc; have a1 := HO2.o.c1; have a2 := HO2.o.c2; have a3 := HO2.o.c3
   rcases hcc with rfl | rfl | rfl
   ·have z2 : (str (Lib.itoa s.t.a)).size <= 30 := by rw [zZ]; exact HLA.o
    have HM := qh (HG65.o (f.take j)); rw [← HTK.o] at HM; go_wp2_with fail
    refine zU (HA.o _) ?_
    go_wp2
    exact ⟨⟨j + 1, by go_num, om, by rw [HM.o], qh trivial⟩, by simp [intOf]; omega⟩
   ·have z2 : (str (Lib.itoa s.t.n)).size <= 30 := by rw [zZ]; exact HLN.o
    have HM := qh (HG78.o (f.take j)); rw [← HTK.o] at HM; go_wp2_with fail
    refine zU (HN.o _) ?_
    go_wp2
    exact ⟨⟨j + 1, by go_num, om, by rw [HM.o], qh trivial⟩, by simp [intOf]; omega⟩
   ·have z2 : (str (Lib.itoa s.t.owner)).size <= 30 := by rw [zZ]; exact HLO.o
    have HM := qh (HG79.o (f.take j)); rw [← HTK.o] at HM; go_wp2_with fail
    refine zU (HW.o _) ?_
    go_wp2
    exact ⟨⟨j + 1, by go_num, om, by rw [HM.o], qh trivial⟩, by simp [intOf]; omega⟩
  ·obtain rfl : j = f.length := om
   have HT : Hid (f.take f.length = f) := qh xK
   go_wp2
   go_ret
   exact ⟨rfl, HB2.o⟩
end Go.Proofs.YtdbgeobolongmaaGreatDoor
