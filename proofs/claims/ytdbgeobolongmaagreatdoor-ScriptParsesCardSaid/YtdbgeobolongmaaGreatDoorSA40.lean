/- Part of the proof: ScriptLines, ScriptParses, ScriptShows. -/
import Derived.Test.YtdbgeobolongmaaGreatDoorSA37
set_option linter.unusedVariables false
set_option linter.unusedSimpArgs false
set_option maxRecDepth 100000
set_option maxHeartbeats 16000000
namespace Go.Proofs.YtdbgeobolongmaaGreatDoor
open Go.RowKit Go.Shelf Go.Proofs Go.OctetPlain Go.PrefixPlain Go.ColonPlain Go.Proofs.Tryz
structure uN (q : Nat -> Prop) (w : World) (s : StV) : Prop where
 l : SlP q w 1 encI s.vl s.t.hop.labels
 r : SlP q w 1 encI s.vr s.t.hop.repair
 ws : SlP q w 2 aV s.vw s.t.ways
theorem uN.one {q : Nat -> Prop} {w : World} {s : StV} (h : uN q w s) : (oA s).all (·.oneCell') = true := oA_one h.l.one h.r.one h.ws.one
theorem uN.sv {q : Nat -> Prop} {w : World} {t : Sc.Stp} (h1 : t.hop = Sc.hop0) (h2 : t.ways = []) : uN q w (svD t) := ⟨by show SlP q w 1 encI _ t.hop.labels; rw [h1]; exact SlP.nil _ _ _, by show SlP q w 1 encI _ t.hop.repair; rw [h1]; exact SlP.nil _ _ _, by show SlP q w 2 aV _ t.ways; rw [h2]; exact SlP.nil _ _ _⟩
theorem uN.grown {q : Nat -> Prop} {w w' : World} {s : StV} (h : uN q w s) {row : Option Nat} (hg : w.grownBy w' row) (hr : ∀ b, q b -> row ≠ some b) : uN q w' s := ⟨h.l.grown hg hr, h.r.grown hg hr, h.ws.grown hg hr⟩
theorem uN.next {q : Nat -> Prop} {w w' : World} {s : StV} (h : uN q w s) (hb : zW w w') : uN q w' s := h.grown (row := none) (uE hb _) (fun b _ e => by cases e)
theorem uN.imp {q r : Nat -> Prop} {w : World} {s : StV} (h : uN q w s) (hi : ∀ b, q b -> r b) : uN r w s := ⟨h.l.imp hi, h.r.imp hi, h.ws.imp hi⟩
def zBs (o : Option Sc.Stp) (W : World) (e : Ending) (W' : World) : Prop := ∃ s', e = .returned (.tuple #[.agg (oA s'), .bool o.isSome]) /\ (∀ y, o = some y -> s'.t = y) /\ s'.t.pf.addr.length = 16 /\ uN (fun b => W.heap.size <= b) W' s' /\ zW W W'
structure BhS (w : World) (X R : Nat) (s : StV) (W : World) : Prop where
 o : OAt W X s
 r : Blk W R 42 (oA (svD Sc.z))
 b : zW w W
 x0 : w.heap.size <= X
 r0 : w.heap.size <= R
 ne : X ≠ R
theorem BhS.next {w W W' : World} {X R : Nat} {s : StV} (h : BhS w X R s W) (hb : zW W W') : BhS w X R s W' := ⟨h.o.next hb, h.r.below hb h.r.lt, h.b.trans (hb.mono h.b.size), h.x0, h.r0, h.ne⟩
theorem BhS.set {w W W' : World} {X R : Nat} {s s' : StV} (h : BhS w X R s W) (hg : W.grownBy W' (some X)) (ho : OAt W' X s') : BhS w X R s' W' := ⟨ho, h.r.grownO hg (fun e => h.ne (vW e)), h.b.trans (jB hg h.b.size h.x0), h.x0, h.r0, h.ne⟩
theorem infoSpn : (prog.info? 23).map (·.size) = some 2 := kf
theorem infoPfx : (prog.info? 26).map (·.size) = some 18 := kf
theorem infoHp : (prog.info? 29).map (·.size) = some 6 := kf
theorem bh0 {t : Sc.Stp} {w : World} (p16 : t.pf.addr.length = 16) : ∀ w1 w2, w1 = w.alloc (.cells (oA (svD t)) 42) -> w2 = w1.alloc (.cells (oA (svD Sc.z)) 42) -> BhS w w.heap.size w1.heap.size (svD t) w2 := fun w1 w2 h1 h2 => by
 subst h2; subst h1; exact ⟨⟨(Blk.new w _ _).alloc _, p16⟩, Blk.new _ _ _, (yD w _).alloc zi _, yZ _, zi, zi⟩
section
variable {ops : Array Oper} {rest : List Oper} {o : Oper} {a : Act} {w w0 : World} {Q : Exit -> Act -> World -> Prop} {X R : Nat} {s : StV}
theorem qL (hw : Region.wanted o (yielded ops a.tmps) = true) (x : Operand) (ho : o.op = .load 42 x) (hx : a.eval x = .pointer (some ⟨X, 0, none⟩)) (HS : BhS w0 X R s w) (h : wpList prog ops Q rest (a.put o.dst (.agg (oA s))) w) : wpList prog ops Q (o :: rest) a w :=
 yI hw _ x ho X hx _ (oA s) (0, 0) _ HS.o.b underlying42 rfl (by rw [kI]; exact lX) h
theorem kH (hgd : o.guard = none) (x y : Operand) (ho : o.op = .store 42 x y) (hx : a.eval x = .pointer (some ⟨R, 0, none⟩)) (hy : a.eval y = .agg (oA s)) (HS : BhS w0 X R s w) (HI : uN (fun b => R < b) w s)
  (h : ∀ w8, Hid (Blk w8 R 42 (oA s)) -> Hid (zW w0 w8) -> Hid (uN (fun b => w0.heap.size <= b) w8 s) -> wpList prog ops Q rest (a.put o.dst undef) w8) : wpList prog ops Q (o :: rest) a w :=
 zJ hgd _ x y ho R (oA s) hx hy _ _ HS.r (by rw [kI]; exact lX) (by rw [kI, kI]) HI.one fun w8 hw8 => h w8 (by rw [hw8]; exact qh (HS.r.setRow _)) (by rw [hw8]; exact qh (below_setRow HS.b HS.r0 _)) (by rw [hw8]; exact qh ((HI.grown (uV _ _ _) (fun b hb e => by cases e; exact tC _ hb)).imp fun b hb => yK HS.r0 (jI hb)))
theorem qV {fn : Func} {p q : Tmp} (h : fn.results = #[.cell p 42, .tmp q]) {tmps : Array Value} {g : Nat} (hp : tmps.getD p undef = .pointer (some ⟨g, 0, none⟩)) (hb : Blk w g 42 (oA s)) : (results fn tmps).run prog w = .ok (.tuple #[.agg (oA s), tmps.getD q undef]) w :=
 results_cell_tmp h _ _ _ _ _ _ _ hp hb underlying42 rfl (by rw [kI]; exact lX)
end
theorem beh_dot (t : Sc.Stp) (k : Nat) (hk : k < 16) (hkd : t.kind = (k : Int)) (hr : Sc.restL.getD k 0 = 46) (h0 : t.hop = Sc.hop0) (hw : t.ways = []) (p16 : t.pf.addr.length = 16) (l : List Hp.Wd) (hl : l.length <= 1048576) (v : Value) (w : World) (hv : SlR w 1 encS v l) :
  Calls prog 31 #[.agg (oA (svD t)), v] w (zBs (if l = [] then some t else none) w) := by
 obtain ⟨p, cap, rfl, g1, g2, hR⟩ := hv; obtain ⟨o, HO⟩ : ∃ o, Hid (o = if l = [] then some t else none) := ⟨_, qh rfl⟩; rw [← HO.o]; have htl := vX
 by_cases hl0 : l = []
 ·have HON : Hid (o = some t) := qh (by rw [HO.o, zN hl0])
  subst hl0; simp only [xI] at *; have HS0 := qh (bh0 (t := t) (w := w) p16); have HRS := qh fun W => aD k hk W; rw [hr] at HRS; have HKD : Hid ((svD t).t.kind = (k : Int)) := qh hkd; have HI0 : Hid (∀ W (q : Nat -> Prop), uN q W (svD t)) := qh fun W q => uN.sv h0 hw; clear h0 hw p16 hr hkd
  go_enter func31, ntmps31
  go_wp2_with (first
   | (refine yS (w := w) rfl _ (.tmp 0) rf (oA (svD t)) rf ?_; intro w1 E1; have HE1 := qh E1; clear E1)
   | (refine zQ (w := w1) rfl 42 rf _ oU ?_; intro w2 E2; have HS := qh (HS0.o w1 w2 HE1.o E2); clear E2; have c0 := HS.o.o.c0; rw [HKD.o] at c0))
  refine (HRS.o _).mono ?_; rintro e w3 ⟨rfl, rfl⟩; have HS3 := qh HS.o; have HZR : Hid (w.heap.size < w1.heap.size) := qh (by rw [HE1.o]; simp); have HI := qh (HI0.o w3 (fun b => w1.heap.size < b))
  go_wp2_with (first
   | (refine qL rf (.tmp 2) rf rf HS.o ?_)
   | (refine kH rfl (.tmp 4) (.tmp 123) rf rf rf HS.o HI.o ?_; intro w8 HR8 HB8 HI8))
  exact zC (qV rfl rfl HR8.o) rfl ⟨(svD t), by rw [HON.o]; rfl, (fun y hy => by rw [HON.o] at hy; cases hy; first | rfl | done), HS.o.o.p16, HI8.o, HB8.o⟩
 ·have HON : Hid (o = none) := qh (by rw [HO.o, zH hl0])
  have hd : ((l.length : Int) == 0) = false := by
   have := kU.2 hl0; simp only [yF, qR]; omega
  clear hl0; have HS0 := qh (bh0 (t := t) (w := w) p16); have HRS := qh fun W => aD k hk W; rw [hr] at HRS; have HKD : Hid ((svD t).t.kind = (k : Int)) := qh hkd; have HI0 : Hid (∀ W (q : Nat -> Prop), uN q W (svD t)) := qh fun W q => uN.sv h0 hw; clear h0 hw p16 hr hkd
  go_enter func31, ntmps31
  go_wp2_with (first
   | (refine yS (w := w) rfl _ (.tmp 0) rf (oA (svD t)) rf ?_; intro w1 E1; have HE1 := qh E1; clear E1)
   | (refine zQ (w := w1) rfl 42 rf _ oU ?_; intro w2 E2; have HS := qh (HS0.o w1 w2 HE1.o E2); clear E2; have c0 := HS.o.o.c0; rw [HKD.o] at c0))
  refine (HRS.o _).mono ?_; rintro e w3 ⟨rfl, rfl⟩; have HS3 := qh HS.o; have HZR : Hid (w.heap.size < w1.heap.size) := qh (by rw [HE1.o]; simp); have HI := qh (HI0.o w3 (fun b => w1.heap.size < b))
  go_wp2_with (first
   | (refine qL rf (.tmp 2) rf rf HS.o ?_)
   | (refine kH rfl (.tmp 4) (.tmp 123) rf rf rf HS.o HI.o ?_; intro w8 HR8 HB8 HI8))
  exact zC (qV rfl rfl HR8.o) rfl ⟨(svD t), by rw [HON.o]; rfl, (fun y hy => by rw [HON.o] at hy; cases hy; first | rfl | done), HS.o.o.p16, HI8.o, HB8.o⟩
theorem one_cases {l : List Hp.Wd} (h : l.length = 1) : ∃ x, l = [x] := by
 match l, h with
 | [x], _ => exact ⟨x, rfl⟩
theorem beh_S (t : Sc.Stp) (k : Nat) (hk : k < 16) (hkd : t.kind = (k : Int)) (hr : Sc.restL.getD k 0 = 83) (h0 : t.hop = Sc.hop0) (hw : t.ways = []) (p16 : t.pf.addr.length = 16) (l : List Hp.Wd) (hl : l.length <= 1048576) (hx : ∀ x ∈ l, x.length <= 65536) (v : Value) (w : World) (hv : SlR w 1 encS v l) :
  Calls prog 31 #[.agg (oA (svD t)), v] w (zBs (Sc.behS t l) w) := by
 obtain ⟨p, cap, rfl, g1, g2, hR⟩ := hv; obtain ⟨o, HO⟩ : ∃ o, Hid (o = Sc.behS t l) := ⟨_, qh rfl⟩; rw [← HO.o]; have htl := vX
 by_cases hl1 : l.length = 1
 ·obtain ⟨x, rfl⟩ := one_cases hl1
  have hx1 := hx x zi; have HR := qh fun W (hb : zW w W) => hR.below hb zn; obtain ⟨b, off, rfl, hbl, -⟩ := hR.at (i := 0) zi
  have HC : Hid (∀ W, zW w W -> W.cell? ⟨b, off, none⟩ = some (.string (str x))) := qh fun W hb => by
   have c0 := (HR.o W hb).in (i := 0) zi 0 _ rfl
   simpa using c0
  have HTW := qh fun W => r32_two 45 x om W; have HO2 : Hid (o = match Sc.twoD 45 x with | some p => some { t with s1 := p.1, s2 := p.2 } | none => none) := qh HO.o; generalize Sc.twoD 45 x = oo at *; clear hR hl1 hx1 hx HO; have HS0 := qh (bh0 (t := t) (w := w) p16); have HRS := qh fun W => aD k hk W; rw [hr] at HRS; have HKD : Hid ((svD t).t.kind = (k : Int)) := qh hkd; have HI0 : Hid (∀ W (q : Nat -> Prop), uN q W (svD t)) := qh fun W q => uN.sv h0 hw; clear h0 hw p16 hr hkd
  go_enter func31, ntmps31
  go_wp2_with (first
   | (refine yS (w := w) rfl _ (.tmp 0) rf (oA (svD t)) rf ?_; intro w1 E1; have HE1 := qh E1; clear E1)
   | (refine zQ (w := w1) rfl 42 rf _ oU ?_; intro w2 E2; have HS := qh (HS0.o w1 w2 HE1.o E2); clear E2; have c0 := HS.o.o.c0; rw [HKD.o] at c0))
  refine (HRS.o _).mono ?_; rintro e w3 ⟨rfl, rfl⟩; have HS3 := qh HS.o; have HZR : Hid (w.heap.size < w1.heap.size) := qh (by rw [HE1.o]; simp); have d0 := HC.o w3 HS.o.b; go_wp2_with fail
  refine (HTW.o _).mono ?_; rintro e w4 ⟨a, c, rfl, hac, hb4⟩; replace HS := qh (HS.o.next hb4); clear c0 d0 hb4
  go_upto_region 7 with (refine jG (fun W' => Hid (BhS w w.heap.size w1.heap.size { svD t with t := { t with s1 := a, s2 := c } } W')) rfl _ _ _ rfl w.heap.size 4 #[.int .i64 a, .int .i64 c] rf rf (HS.o.o.th (by show 4 + 2 <= 32; decide)) infoSpn (by simp [Value.oneCell']) (qh (HS.o.set (fI _ _ _ _) (HS.o.o.setS a c))) ?_; clear HS; intro w5 HS)
  have HI : Hid (uN (fun b => w1.heap.size < b) w5 { svD t with t := { t with s1 := a, s2 := c } }) := qh ⟨(HI0.o w5 _).l, (HI0.o w5 _).r, (HI0.o w5 _).ws⟩
  cases oo with
  |none =>
   have HON : Hid (o = none) := HO2
   go_wp2_with (first
    | (refine qL rf (.tmp 2) rf rf HS.o ?_)
    | (refine kH rfl (.tmp 4) (.tmp 38) rf rf rf HS.o HI.o ?_; intro w8 HR8 HB8 HI8))
   exact zC (qV rfl rfl HR8.o) rfl ⟨{ svD t with t := { t with s1 := a, s2 := c } }, by rw [HON.o]; rfl, (fun y hy => by rw [HON.o] at hy; cases hy; first | rfl | done), HS.o.o.p16, HI8.o, HB8.o⟩
  |some p =>
   have HON : Hid (o = some { t with s1 := a, s2 := c }) := qh (by rw [HO2.o, hac p rfl])
   go_wp2_with (first
    | (refine qL rf (.tmp 2) rf rf HS.o ?_)
    | (refine kH rfl (.tmp 4) (.tmp 38) rf rf rf HS.o HI.o ?_; intro w8 HR8 HB8 HI8))
   exact zC (qV rfl rfl HR8.o) rfl ⟨{ svD t with t := { t with s1 := a, s2 := c } }, by rw [HON.o]; rfl, (fun y hy => by rw [HON.o] at hy; cases hy; first | rfl | done), HS.o.o.p16, HI8.o, HB8.o⟩
 ·have HON : Hid (o = none) := qh (by
   rw [HO.o]
   match l, hl1 with
   | [], _ => rfl
   | [_], h => exact absurd rfl h
   | _ :: _ :: _, _ => rfl)
  have hd : ((l.length : Int) != 1) = true := by simp only [jZ, qR]; omega
  clear hl1; have HS0 := qh (bh0 (t := t) (w := w) p16); have HRS := qh fun W => aD k hk W; rw [hr] at HRS; have HKD : Hid ((svD t).t.kind = (k : Int)) := qh hkd; have HI0 : Hid (∀ W (q : Nat -> Prop), uN q W (svD t)) := qh fun W q => uN.sv h0 hw; clear h0 hw p16 hr hkd
  go_enter func31, ntmps31
  go_wp2_with (first
   | (refine yS (w := w) rfl _ (.tmp 0) rf (oA (svD t)) rf ?_; intro w1 E1; have HE1 := qh E1; clear E1)
   | (refine zQ (w := w1) rfl 42 rf _ oU ?_; intro w2 E2; have HS := qh (HS0.o w1 w2 HE1.o E2); clear E2; have c0 := HS.o.o.c0; rw [HKD.o] at c0))
  refine (HRS.o _).mono ?_; rintro e w3 ⟨rfl, rfl⟩; have HS3 := qh HS.o; have HZR : Hid (w.heap.size < w1.heap.size) := qh (by rw [HE1.o]; simp); have HI := qh (HI0.o w3 (fun b => w1.heap.size < b))
  go_wp2_with (first
   | (refine qL rf (.tmp 2) rf rf HS.o ?_)
   | (refine kH rfl (.tmp 4) (.tmp 25) rf rf rf HS.o HI.o ?_; intro w8 HR8 HB8 HI8))
  exact zC (qV rfl rfl HR8.o) rfl ⟨(svD t), by rw [HON.o]; rfl, (fun y hy => by rw [HON.o] at hy; cases hy; first | rfl | done), HS.o.o.p16, HI8.o, HB8.o⟩
theorem beh_H (t : Sc.Stp) (k : Nat) (hk : k < 16) (hkd : t.kind = (k : Int)) (hr : Sc.restL.getD k 0 = 72) (h0 : t.hop = Sc.hop0) (hw : t.ways = []) (p16 : t.pf.addr.length = 16) (l : List Hp.Wd) (hl : l.length <= 1048576) (hj : (Hp.join l).length <= 1000000) (v : Value) (w : World) (hv : SlR w 1 encS v l) :
  Calls prog 31 #[.agg (oA (svD t)), v] w (zBs (Sc.behH t l) w) := by
 obtain ⟨p, cap, rfl, g1, g2, hR⟩ := hv; obtain ⟨o, HO⟩ : ∃ o, Hid (o = Sc.behH t l) := ⟨_, qh rfl⟩; rw [← HO.o]; have htl := vX; have HV : Hid (∀ W, zW w W -> SlR W 1 encS (.slice p l.length cap) l) := qh fun W hb => ⟨p, cap, rfl, g1, g2, hR.below hb zn⟩; have HJ := qh fun (W : World) (hb : zW w W) => r32_joined l hl om _ W (HV.o W hb); have HPR := qh fun W => ref_Parse15 (Hp.join l) hj W; have HO2 : Hid (o = match Hp.refParse (Hp.join l) with | some h => some { t with hop := h } | none => none) := qh HO.o; generalize Hp.refParse (Hp.join l) = oo at *; clear hR HO; have HS0 := qh (bh0 (t := t) (w := w) p16); have HRS := qh fun W => aD k hk W; rw [hr] at HRS; have HKD : Hid ((svD t).t.kind = (k : Int)) := qh hkd; have HI0 : Hid (∀ W (q : Nat -> Prop), uN q W (svD t)) := qh fun W q => uN.sv h0 hw; clear h0 hw p16 hr hkd
 go_enter func31, ntmps31
 go_wp2_with (first
  | (refine yS (w := w) rfl _ (.tmp 0) rf (oA (svD t)) rf ?_; intro w1 E1; have HE1 := qh E1; clear E1)
  | (refine zQ (w := w1) rfl 42 rf _ oU ?_; intro w2 E2; have HS := qh (HS0.o w1 w2 HE1.o E2); clear E2; have c0 := HS.o.o.c0; rw [HKD.o] at c0))
 refine zU (HRS.o _) ?_; have HS3 := qh HS.o; have HZR : Hid (w.heap.size < w1.heap.size) := qh (by rw [HE1.o]; simp); go_wp2_with fail
 refine (HJ.o _ HS.o.b).mono ?_; rintro e w4 ⟨rfl, rfl⟩; go_wp2_with fail
 refine (HPR.o _).mono ?_; rintro e w5 ⟨vl, vr, rfl, hfr, hb5⟩; obtain ⟨h1, HH1⟩ : ∃ h1, Hid (h1 = oo.getD ⟨0, [], 0, 0, [], false⟩) := ⟨_, qh rfl⟩; rw [← HH1.o] at hfr ⊢; replace HS := qh (HS.o.next hb5); have HFR := qh hfr; have hz5 := hb5.size; have HZ3 : Hid (w1.heap.size < w4.heap.size) := qh HS3.o.r.lt; clear hfr hb5 c0; have HHI : Hid ((prog.info? 29).map (·.size) = some (hopA h1 vl vr).size) := qh infoHp
 have HHO : Hid ((hopA h1 vl vr).all (·.oneCell') = true) := qh (by
  obtain ⟨p1, q1, rfl, -⟩ := HFR.o.sl; obtain ⟨p2, q2, rfl, -⟩ := HFR.o.sr; simp [hopA, Value.oneCell'])
 have HZH : Hid (∀ W, (zeroValue 29).run prog W = .ok (.agg (hopA ⟨0, [], 0, 0, [], false⟩ (.slice none 0 0) (.slice none 0 0))) W) := qh fun W => kf
 have HB6 : Hid (∀ w6 w7, w6 = w5.alloc (.cells (hopA ⟨0, [], 0, 0, [], false⟩ (.slice none 0 0) (.slice none 0 0)) 29) -> w7 = w6.setRow w5.heap.size (hopA h1 vl vr) -> Blk w7 w5.heap.size 29 (hopA h1 vl vr) /\ zW w5 w7) := qh fun w6 w7 e1 e2 => by
  subst e1 e2; exact ⟨(Blk.new _ _ _).setRow _, below_setRow (yD _ _) zn _⟩
 go_upto_region 10 with (first
  | (refine zQ (w := w5) rfl 29 rf _ HZH.o ?_; intro w6 h6; have HE6 := qh h6; clear h6)
  | (refine zJ rfl 29 (.tmp 9) (.tmp 46) rf w5.heap.size (hopA h1 vl vr) rf rf 29 (hopA ⟨0, [], 0, 0, [], false⟩ (.slice none 0 0) (.slice none 0 0)) (by rw [HE6.o]; exact Blk.new _ _ _) HHI.o rfl HHO.o ?_; intro w7 h7; have HK7 := qh (HB6.o w6 w7 HE6.o h7); replace HS := qh (HS.o.next HK7.o.2); clear h7))
 have HST : Hid (∀ W', W' = w7.setCells w.heap.size 24 (hopA h1 vl vr).toList -> Hid (BhS w w.heap.size w1.heap.size { svD t with t := { t with hop := h1 }, vl := vl, vr := vr } W' /\ uN (fun b => w1.heap.size < b) W' { svD t with t := { t with hop := h1 }, vl := vl, vr := vr })) := qh fun W' hW => by
  have hg := fI (hopA h1 vl vr).toList w7 w.heap.size 24; have ho := HS.o.o.setH h1 vl vr; rw [← hW] at hg ho
  have key : ∀ {v : Value} {xs : List Int}, SlP (w4.heap.size <= ·) w5 1 encI v xs -> SlP (fun b => w1.heap.size < b) W' 1 encI v xs := fun {v xs} h =>
   ((h.below HK7.o.2 zn).imp (Qr := fun b => w1.heap.size < b) (fun b hb => by have := HZ3.o; omega)).grown hg (fun b hb e => by cases e; have := HZR.o; omega)
  exact qh ⟨HS.o.set hg ho, key HFR.o.sl, key HFR.o.sr, (HI0.o W' _).ws⟩
 go_upto_region 11 with (first
  | (refine yI rf 29 (.tmp 9) rf w5.heap.size rf _ (hopA h1 vl vr) (0, 0) _ HK7.o.1 underlying29 rfl HHI.o ?_)
  | (refine jG (fun W' => Hid (BhS w w.heap.size w1.heap.size { svD t with t := { t with hop := h1 }, vl := vl, vr := vr } W' /\ uN (fun b => w1.heap.size < b) W' { svD t with t := { t with hop := h1 }, vl := vl, vr := vr })) rfl _ _ _ rfl w.heap.size 24 (hopA h1 vl vr) rf rf (HS.o.o.th (by show 24 + 6 <= 32; decide)) HHI.o HHO.o (HST.o _ rfl) ?_; clear HS; intro w8 H8))
 have HS := qh H8.o.1; have HI := qh H8.o.2; clear H8 HST
 cases oo with
 |none =>
  have HON : Hid (o = none) := HO2
  go_wp2_with (first
   | (refine qL rf (.tmp 2) rf rf HS.o ?_)
   | (refine kH rfl (.tmp 4) (.tmp 50) rf rf rf HS.o HI.o ?_; intro w8 HR8 HB8 HI8))
  exact zC (qV rfl rfl HR8.o) rfl ⟨{ svD t with t := { t with hop := h1 }, vl := vl, vr := vr }, by rw [HON.o]; rfl, (fun y hy => by rw [HON.o] at hy; cases hy; first | rfl | done), HS.o.o.p16, HI8.o, HB8.o⟩
 |some h2 =>
  have HON : Hid (o = some { t with hop := h1 }) := qh (by rw [HO2.o, HH1.o]; rfl)
  go_wp2_with (first
   | (refine qL rf (.tmp 2) rf rf HS.o ?_)
   | (refine kH rfl (.tmp 4) (.tmp 50) rf rf rf HS.o HI.o ?_; intro w8 HR8 HB8 HI8))
  exact zC (qV rfl rfl HR8.o) rfl ⟨{ svD t with t := { t with hop := h1 }, vl := vl, vr := vr }, by rw [HON.o]; rfl, (fun y hy => by rw [HON.o] at hy; cases hy; first | rfl | done), HS.o.o.p16, HI8.o, HB8.o⟩
theorem beh_W (t : Sc.Stp) (k : Nat) (hk : k < 16) (hkd : t.kind = (k : Int)) (hr : Sc.restL.getD k 0 = 87) (h0 : t.hop = Sc.hop0) (hw : t.ways = []) (p16 : t.pf.addr.length = 16) (l : List Hp.Wd) (hl : l.length <= 1048576) (hx : ∀ x ∈ l, x.length <= 65536) (v : Value) (w : World) (hv : SlR w 1 encS v l) :
  Calls prog 31 #[.agg (oA (svD t)), v] w (zBs (Sc.behW t l) w) := by
 obtain ⟨p, cap, rfl, g1, g2, hR⟩ := hv; obtain ⟨o, HO⟩ : ∃ o, Hid (o = Sc.behW t l) := ⟨_, qh rfl⟩; rw [← HO.o]; have htl := vX; have HV : Hid (∀ W, zW w W -> SlR W 1 encS (.slice p l.length cap) l) := qh fun W hb => ⟨p, cap, rfl, g1, g2, hR.below hb zn⟩; have HWY := qh fun (W : World) (hb : zW w W) => r32_ways l hl hx _ W (HV.o W hb); have HO2 : Hid (o = match Sc.waysN l with | some r => some { t with ways := r } | none => none) := qh HO.o; generalize Sc.waysN l = oo at *; clear hR HO hx
 have HS0 : Hid (∀ w1 w2, w1 = w.alloc (.cells (oA (svD t)) 42) -> w2 = w1.alloc (.cells (oA (svD Sc.z)) 42) -> BhS w w.heap.size w1.heap.size (svD t) w2) := qh fun w1 w2 h1 h2 => by
  subst h2; subst h1; exact ⟨⟨(Blk.new w _ _).alloc _, p16⟩, Blk.new _ _ _, (yD w _).alloc zi _, yZ _, zi, zi⟩
 have HRS := qh fun W => aD k hk W; rw [hr] at HRS; have HKD : Hid ((svD t).t.kind = (k : Int)) := qh hkd; have HI0 : Hid (∀ W (q : Nat -> Prop), uN q W (svD t)) := qh fun W q => uN.sv h0 hw; clear h0 hw p16 hr hkd
 go_enter func31, ntmps31
 go_wp2_with (first
  | (refine yS (w := w) rfl _ (.tmp 0) rf (oA (svD t)) rf ?_; intro w1 E1; have HE1 := qh E1; clear E1)
  | (refine zQ (w := w1) rfl 42 rf _ oU ?_; intro w2 E2; have HS := qh (HS0.o w1 w2 HE1.o E2); clear E2; have c0 := HS.o.o.c0; rw [HKD.o] at c0))
 refine zU (HRS.o _) ?_; have HS3 := qh HS.o; have HZR : Hid (w.heap.size < w1.heap.size) := qh (by rw [HE1.o]; simp); go_wp2_with fail
 refine (HWY.o _ HS.o.b).mono ?_; rintro e w4 ⟨v4, ws, rfl, hws, hsl, hb4⟩; replace HS := qh (HS.o.next hb4); have HSL := qh hsl; have HZ3 := HS3.o.r.lt; obtain ⟨p4, c4, rfl, -⟩ := hsl; have c30 := HS.o.o.c30; have f30 := HS.o.o.fz 30; clear hb4 c0
 go_upto_region 15 with fail
 have HS9 := qh (HS.o.set (vH _ _ _ _) (HS.o.o.setW ws (.slice p4 ws.length c4))); have HI : Hid (uN (fun b => w1.heap.size < b) (w4.setCell ⟨w.heap.size, 30, none⟩ (.slice p4 ws.length c4)) { svD t with t := { t with ways := ws }, vw := .slice p4 ws.length c4 }) := qh ⟨(HI0.o _ _).l, (HI0.o _ _).r, (HSL.o.imp (Qr := fun b => w1.heap.size < b) (fun b hb => om)).grown (vH _ _ _ _) (fun b hb e => by cases e; have := HZR.o; omega)⟩; replace HS := HS9; clear c30 f30
 cases oo with
 |none =>
  have HON : Hid (o = none) := HO2
  go_wp2_with (first
   | (refine qL rf (.tmp 2) rf rf HS.o ?_)
   | (refine kH rfl (.tmp 4) (.tmp 61) rf rf rf HS.o HI.o ?_; intro w8 HR8 HB8 HI8))
  exact zC (qV rfl rfl HR8.o) rfl ⟨{ svD t with t := { t with ways := ws }, vw := .slice p4 ws.length c4 }, by rw [HON.o]; rfl, (fun y hy => by rw [HON.o] at hy; cases hy; first | rfl | done), HS.o.o.p16, HI8.o, HB8.o⟩
 |some h2 =>
  have HON : Hid (o = some { t with ways := ws }) := qh (by rw [HO2.o, hws h2 rfl])
  go_wp2_with (first
   | (refine qL rf (.tmp 2) rf rf HS.o ?_)
   | (refine kH rfl (.tmp 4) (.tmp 61) rf rf rf HS.o HI.o ?_; intro w8 HR8 HB8 HI8))
  exact zC (qV rfl rfl HR8.o) rfl ⟨{ svD t with t := { t with ways := ws }, vw := .slice p4 ws.length c4 }, by rw [HON.o]; rfl, (fun y hy => by rw [HON.o] at hy; cases hy; first | rfl | done), HS.o.o.p16, HI8.o, HB8.o⟩
theorem beh_T (t : Sc.Stp) (k : Nat) (hk : k < 16) (hkd : t.kind = (k : Int)) (hr : Sc.restL.getD k 0 = 84) (h0 : t.hop = Sc.hop0) (hw : t.ways = []) (p16 : t.pf.addr.length = 16) (l : List Hp.Wd) (hl : l.length <= 1048576) (hx : ∀ x ∈ l, x.length <= 65536) (v : Value) (w : World) (hv : SlR w 1 encS v l) :
  Calls prog 31 #[.agg (oA (svD t)), v] w (zBs (Sc.behT t l) w) := by
 obtain ⟨p, cap, rfl, g1, g2, hR⟩ := hv; obtain ⟨o, HO⟩ : ∃ o, Hid (o = Sc.behT t l) := ⟨_, qh rfl⟩; rw [← HO.o]; have htl := vX
 by_cases hl1 : l.length = 1
 ·obtain ⟨x, rfl⟩ := one_cases hl1
  have hx1 := hx x zi; have HR := qh fun W (hb : zW w W) => hR.below hb zn; obtain ⟨b, off, rfl, hbl, -⟩ := hR.at (i := 0) zi
  have HC : Hid (∀ W, zW w W -> W.cell? ⟨b, off, none⟩ = some (.string (str x))) := qh fun W hb => by
   have c0 := (HR.o W hb).in (i := 0) zi 0 _ rfl
   simpa using c0
  have HPT := qh fun W => r32_printed x om W; have HO2 : Hid (o = if Sc.printed x = true then some { t with text := x } else none) := qh HO.o; generalize Sc.printed x = pr at *; clear hR hl1 hx1 hx HO
  have HS0 : Hid (∀ w1 w2, w1 = w.alloc (.cells (oA (svD t)) 42) -> w2 = w1.alloc (.cells (oA (svD Sc.z)) 42) -> BhS w w.heap.size w1.heap.size (svD t) w2) := qh fun w1 w2 h1 h2 => by
   subst h2; subst h1; exact ⟨⟨(Blk.new w _ _).alloc _, p16⟩, Blk.new _ _ _, (yD w _).alloc zi _, yZ _, zi, zi⟩
  have HRS := qh fun W => aD k hk W; rw [hr] at HRS; have HKD : Hid ((svD t).t.kind = (k : Int)) := qh hkd; have HI0 : Hid (∀ W (q : Nat -> Prop), uN q W (svD t)) := qh fun W q => uN.sv h0 hw; clear h0 hw p16 hr hkd
  go_enter func31, ntmps31
  go_wp2_with (first
   | (refine yS (w := w) rfl _ (.tmp 0) rf (oA (svD t)) rf ?_; intro w1 E1; have HE1 := qh E1; clear E1)
   | (refine zQ (w := w1) rfl 42 rf _ oU ?_; intro w2 E2; have HS := qh (HS0.o w1 w2 HE1.o E2); clear E2; have c0 := HS.o.o.c0; rw [HKD.o] at c0))
  refine (HRS.o _).mono ?_; rintro e w3 ⟨rfl, rfl⟩; have HS3 := qh HS.o; have HZR : Hid (w.heap.size < w1.heap.size) := qh (by rw [HE1.o]; simp); have d0 := HC.o w3 HS.o.b; have c31 := HS.o.o.c31; have f31 := HS.o.o.fz 31
  go_upto_region 33 with fail
  clear d0 c31 f31 c0; have HS9 := qh (HS.o.set (vH _ _ _ _) (HS.o.o.setT x)); have HI : Hid (uN (fun b => w1.heap.size < b) (w3.setCell ⟨w.heap.size, 31, none⟩ (.string (str x))) { svD t with t := { t with text := x } }) := qh ⟨(HI0.o _ _).l, (HI0.o _ _).r, (HI0.o _ _).ws⟩; replace HS := HS9; generalize w3.setCell ⟨w.heap.size, 31, none⟩ (.string (str x)) = w5 at *; replace HS := qh (HS.o.next (xE w5.heap.size w5).drew); replace HI := qh (HI.o.next (xE w5.heap.size w5).drew); refine yB (S := fun W => OAt W w.heap.size { svD t with t := { t with text := x } } /\ zW w W) kf ⟨HS.o.o, HS.o.b⟩ (fun hHeld => ?_); refine kY 0 rfl (zR rfl (w.heap.size) rfl _ (oA { svD t with t := { t with text := x } }) _ (fun w h => h.1.b) underlying42 rfl (by rw [kI]; exact lX)) ?_; refine kq 1 ?_; refine kq 2 ?_; refine kh 3 (fun w h => HC.o w h.2) ?_; refine qK (i := 4) (v := .bool pr) rfl kf kf kf (fun _ _ _ h => h) ⟨rf, fun w hSw => ⟨_, _, kf, HPT.o w⟩⟩ za ?_; simp only [qA, qB, qC, qD, qE, qF, qG]; refine zS 5 fun K hK => ?_; refine lC _ _ _ rfl (w1.heap.size) (oA { svD t with t := { t with text := x } }) rfl rfl _ (oA (svD Sc.z)) (HS.o.r) (by rw [kI]; exact lX) (by rw [kI, kI]) (HI.o.one) ?_; refine zK hK (⟨HS.o.o.grownO (uV _ _ _) (fun e => HS.o.ne (vW e).symm), below_setRow HS.o.b HS.o.r0 _⟩) fun hHeld => ?_; clear hK K; refine kq 6 ?_; refine zD ?_; have HR8 := qh (HS.o.r.setRow (oA { svD t with t := { t with text := x } })); have HB8 := qh (below_setRow HS.o.b HS.o.r0 (oA { svD t with t := { t with text := x } })); have HI8 : Hid (uN (fun b => w.heap.size <= b) (w5.drew.setRow w1.heap.size (oA { svD t with t := { t with text := x } })) { svD t with t := { t with text := x } }) := qh ((HI.o.grown (uV _ _ _) (fun b hb e => by cases e; exact tC _ hb)).imp fun b hb => yK HS.o.r0 (jI hb))
  cases pr with
  |true =>
   have HON : Hid (o = some { t with text := x }) := HO2; go_wp2_with fail
   exact zC (qV rfl rfl HR8.o) rfl ⟨{ svD t with t := { t with text := x } }, by rw [HON.o]; rfl, (fun y hy => by rw [HON.o] at hy; cases hy; first | rfl | done), HS.o.o.p16, HI8.o, HB8.o⟩
  |false =>
   have HON : Hid (o = none) := HO2; go_wp2_with fail
   exact zC (qV rfl rfl HR8.o) rfl ⟨{ svD t with t := { t with text := x } }, by rw [HON.o]; rfl, (fun y hy => by rw [HON.o] at hy; cases hy; first | rfl | done), HS.o.o.p16, HI8.o, HB8.o⟩
 ·have HON : Hid (o = none) := qh (by
   rw [HO.o]
   match l, hl1 with
   | [], _ => rfl
   | [_], h => exact absurd rfl h
   | _ :: _ :: _, _ => rfl)
  have hd : ((l.length : Int) != 1) = true := by simp only [jZ, qR]; omega
  clear hl1
  have HS0 : Hid (∀ w1 w2, w1 = w.alloc (.cells (oA (svD t)) 42) -> w2 = w1.alloc (.cells (oA (svD Sc.z)) 42) -> BhS w w.heap.size w1.heap.size (svD t) w2) := qh fun w1 w2 h1 h2 => by
   subst h2; subst h1; exact ⟨⟨(Blk.new w _ _).alloc _, p16⟩, Blk.new _ _ _, (yD w _).alloc zi _, yZ _, zi, zi⟩
  have HRS := qh fun W => aD k hk W; rw [hr] at HRS; have HKD : Hid ((svD t).t.kind = (k : Int)) := qh hkd; have HI0 : Hid (∀ W (q : Nat -> Prop), uN q W (svD t)) := qh fun W q => uN.sv h0 hw; clear h0 hw p16 hr hkd
  go_enter func31, ntmps31
  go_wp2_with (first
   | (refine yS (w := w) rfl _ (.tmp 0) rf (oA (svD t)) rf ?_; intro w1 E1; have HE1 := qh E1; clear E1)
   | (refine zQ (w := w1) rfl 42 rf _ oU ?_; intro w2 E2; have HS := qh (HS0.o w1 w2 HE1.o E2); clear E2; have c0 := HS.o.o.c0; rw [HKD.o] at c0))
  refine (HRS.o _).mono ?_; rintro e w3 ⟨rfl, rfl⟩; have HS3 := qh HS.o; have HZR : Hid (w.heap.size < w1.heap.size) := qh (by rw [HE1.o]; simp); have HI := qh (HI0.o w3 (fun b => w1.heap.size < b))
  go_wp2_with (first
   | (refine qL rf (.tmp 2) rf rf HS.o ?_)
   | (refine kH rfl (.tmp 4) (.tmp 113) rf rf rf HS.o HI.o ?_; intro w8 HR8 HB8 HI8))
  exact zC (qV rfl rfl HR8.o) rfl ⟨(svD t), by rw [HON.o]; rfl, (fun y hy => by rw [HON.o] at hy; cases hy; first | rfl | done), HS.o.o.p16, HI8.o, HB8.o⟩
theorem pfA_oneD (p : Pf) : (pfA p).all (·.oneCell') = true := by
 unfold pfA; refine sV fun v hv => ?_; simp only [uS, yR, xR, vB, jV, mW] at hv
 rcases hv with rfl | ⟨c, -, rfl⟩ | rfl <;> rfl
theorem beh_PQ (t : Sc.Stp) (k : Nat) (hk : k < 16) (hkd : t.kind = (k : Int)) (q : Bool) (c : UInt8) (hc : c = 80 /\ q = false ∨ c = 81 /\ q = true) (hr : Sc.restL.getD k 0 = c) (h0 : t.hop = Sc.hop0) (hw : t.ways = []) (p16 : t.pf.addr.length = 16) (l : List Hp.Wd) (hl : l.length <= 1048576) (hx : ∀ x ∈ l, x.length <= 65536) (v : Value) (w : World) (hv : SlR w 1 encS v l) :
  Calls prog 31 #[.agg (oA (svD t)), v] w (zBs (Sc.behP q t l) w) := by
 obtain ⟨p, cap, rfl, g1, g2, hR⟩ := hv; obtain ⟨o, HO⟩ : ∃ o, Hid (o = Sc.behP q t l) := ⟨_, qh rfl⟩; rw [← HO.o]; have htl := vX
 rcases hc with ⟨rfl, hq⟩ | ⟨rfl, hq⟩
 all_goals
  have HQ := qh hq; clear hq
  cases l with
  |nil =>
   have HON : Hid (o = none) := HO; simp only [xI] at *
   have HS0 : Hid (∀ w1 w2, w1 = w.alloc (.cells (oA (svD t)) 42) -> w2 = w1.alloc (.cells (oA (svD Sc.z)) 42) -> BhS w w.heap.size w1.heap.size (svD t) w2) := qh fun w1 w2 h1 h2 => by
    subst h2; subst h1; exact ⟨⟨(Blk.new w _ _).alloc _, p16⟩, Blk.new _ _ _, (yD w _).alloc zi _, yZ _, zi, zi⟩
   have HRS := qh fun W => aD k hk W; rw [hr] at HRS; have HKD : Hid ((svD t).t.kind = (k : Int)) := qh hkd; have HI0 : Hid (∀ W (q : Nat -> Prop), uN q W (svD t)) := qh fun W q => uN.sv h0 hw; clear h0 hw p16 hr hkd
   go_enter func31, ntmps31
   go_wp2_with (first
    | (refine yS (w := w) rfl _ (.tmp 0) rf (oA (svD t)) rf ?_; intro w1 E1; have HE1 := qh E1; clear E1)
    | (refine zQ (w := w1) rfl 42 rf _ oU ?_; intro w2 E2; have HS := qh (HS0.o w1 w2 HE1.o E2); clear E2; have c0 := HS.o.o.c0; rw [HKD.o] at c0))
   refine (HRS.o _).mono ?_; rintro e w3 ⟨rfl, rfl⟩; have HS3 := qh HS.o; have HZR : Hid (w.heap.size < w1.heap.size) := qh (by rw [HE1.o]; simp); have HI := qh (HI0.o w3 (fun b => w1.heap.size < b))
   go_wp2_with (first
    | (refine qL rf (.tmp 2) rf rf HS.o ?_)
    | (refine kH rfl (.tmp 4) (.tmp 69) rf rf rf HS.o HI.o ?_; intro w8 HR8 HB8 HI8))
   exact zC (qV rfl rfl HR8.o) rfl ⟨(svD t), by rw [HON.o]; rfl, (fun y hy => by rw [HON.o] at hy; cases hy; first | rfl | done), HS.o.o.p16, HI8.o, HB8.o⟩
  |cons x r =>
   simp only [zI] at *; have hx1 := hx x zi; have HR := qh fun W (hb : zW w W) => hR.below hb zn; obtain ⟨b, off, rfl, hbl, -⟩ := hR.at (i := 0) zi
   have HC : Hid (∀ W, zW w W -> W.cell? ⟨b, off, none⟩ = some (.string (str x))) := qh fun W hb => by
    have c0 := (HR.o W hb).in (i := 0) zi 0 _ rfl
    simpa using c0
   have HPP := qh fun W => r8_Parse x om W
   have HP1 : Hid (((vR x).getD zP).addr.length = 16) := qh (by
    cases h : vR x with
    | none => rfl
    | some p => exact Sc.parseP_16 h)
   have HL1 : Hid (Len64 ((vR x).getD zP)) := qh (parse_ok16 x).2
   have HPS0 : Hid ((vR x).isSome = true -> vR x = some ((vR x).getD zP)) := qh fun h => by
    cases hh : vR x with
    | none => rw [hh] at h; cases h
    | some p => rfl
   have HPN : Hid ((vR x).isSome = false -> vR x = none) := qh fun h => by
    cases hh : vR x with
    | none => rfl
    | some p => rw [hh] at h; cases h
   generalize (vR x).getD zP = p1 at *; generalize (vR x).isSome = is at *; have HPI : Hid ((prog.info? 26).map (·.size) = some (pfA p1).size) := qh (by rw [rE HP1.o]; exact infoPfx); have HPZ : Hid ((pfA zP).size = (pfA p1).size) := qh (by rw [rE HP1.o]; rfl); have HPO : Hid ((pfA p1).all (·.oneCell') = true) := qh (pfA_oneD p1); have HPS : Hid ((pfA p1).size = 18) := qh (rE HP1.o); have HZP : Hid (∀ W, (zeroValue 26).run prog W = .ok (.agg (pfA zP)) W) := qh fun W => kf; have HSH := qh fun W => r8_Show p1 HP1.o HL1.o W; have hne : ((r.length : Int) + 1 == 0) = false := by simp only [yF, qR]; omega
   have HVX : Hid (∀ W, zW w W -> SlP (fun _ => True) W 1 encS (.slice (some ⟨b, off, none⟩) (r.length + 1) cap) (x :: r)) := qh fun W hb => ⟨_, cap, rfl, by simpa using g1, g2, HR.o W hb, fun _ _ _ => trivial⟩; have HXR := qh fun y (h : y ∈ r) => hx y (yP _ h); clear hR hx1 hx
   have HS0 : Hid (∀ w1 w2, w1 = w.alloc (.cells (oA (svD t)) 42) -> w2 = w1.alloc (.cells (oA (svD Sc.z)) 42) -> BhS w w.heap.size w1.heap.size (svD t) w2) := qh fun w1 w2 h1 h2 => by
    subst h2; subst h1; exact ⟨⟨(Blk.new w _ _).alloc _, p16⟩, Blk.new _ _ _, (yD w _).alloc zi _, yZ _, zi, zi⟩
   have HRS := qh fun W => aD k hk W; rw [hr] at HRS; have HKD : Hid ((svD t).t.kind = (k : Int)) := qh hkd; have HI0 : Hid (∀ W (q : Nat -> Prop), uN q W (svD t)) := qh fun W q => uN.sv h0 hw; clear h0 hw p16 hr hkd
   go_enter func31, ntmps31
   go_wp2_with (first
    | (refine yS (w := w) rfl _ (.tmp 0) rf (oA (svD t)) rf ?_; intro w1 E1; have HE1 := qh E1; clear E1)
    | (refine zQ (w := w1) rfl 42 rf _ oU ?_; intro w2 E2; have HS := qh (HS0.o w1 w2 HE1.o E2); clear E2; have c0 := HS.o.o.c0; rw [HKD.o] at c0))
   refine (HRS.o _).mono ?_; rintro e w3 ⟨rfl, rfl⟩; have HS3 := qh HS.o; have HZR : Hid (w.heap.size < w1.heap.size) := qh (by rw [HE1.o]; simp); have d0 := HC.o w3 HS.o.b; go_wp2_with fail
   refine zT (HPP.o _) fun w4 hb4 => ?_; replace HS := qh (HS.o.next hb4); have HZ4 : Hid (w.heap.size < w4.heap.size) := qh HS.o.o.lt; clear c0 d0 hb4
   have HS9 : Hid (∀ w6 w7, w6 = w4.alloc (.cells (pfA zP) 26) -> w7 = w6.setRow w4.heap.size (pfA p1) -> Blk w7 w4.heap.size 26 (pfA p1) /\ zW w4 w7) := qh fun w6 w7 e1 e2 => by
    subst e1 e2; exact ⟨(Blk.new _ _ _).setRow _, below_setRow (yD _ _) zn _⟩
   go_upto_region 22 with (first
    | (refine zQ (w := w4) rfl 26 rf _ HZP.o ?_; intro w6 h6; have HE6 := qh h6; clear h6)
    | (refine zJ rfl 26 (.tmp 13) (.tmp 75) rf w4.heap.size (pfA p1) rf rf 26 (pfA zP) (by rw [HE6.o]; exact Blk.new _ _ _) HPI.o HPZ.o HPO.o ?_; intro w7 h7; have HK7 := qh (HS9.o w6 w7 HE6.o h7); replace HS := qh (HS.o.next HK7.o.2); clear h7)
    | (refine yI rf 26 (.tmp 13) rf w4.heap.size rf _ (pfA p1) (0, 0) _ HK7.o.1 underlying26 rfl HPI.o ?_)
    | (refine jG (fun W' => Hid (BhS w w.heap.size w1.heap.size { svD t with t := { t with pf := p1 } } W' /\ Blk W' w4.heap.size 26 (pfA p1))) rfl _ _ _ rfl w.heap.size 6 (pfA p1) rf rf (HS.o.o.th (by rw [HPS.o]; decide)) HPI.o HPO.o (qh ⟨HS.o.set (fI _ _ _ _) (HS.o.o.setP HP1.o), HK7.o.1.grownO (fI _ _ _ _) (fun e => by have := vW e; have := HZ4.o; omega)⟩) ?_; clear HS; intro w8 H8))
   have HS := qh H8.o.1; replace HS := qh (HS.o.next (xE w8.heap.size w8).drew); have HKB := qh (H8.o.2.below (xE w8.heap.size w8).drew H8.o.2.lt); refine yB (S := fun W => BhS w w.heap.size w1.heap.size { svD t with t := { t with pf := p1 } } W /\ Blk W w4.heap.size 26 (pfA p1)) kf ⟨HS.o, HKB.o⟩ (fun hHeld => ?_)
   cases is with
   |false =>
    have HON : Hid (o = none) := qh (by rw [HO.o, show Sc.behP q t (x :: r) = (match vR x with | some p => if fC p = x then (if q = true then Sc.behW { t with pf := p } r else if r = [] then some { t with pf := p } else none) else none | none => none) from rfl, HPN.o rfl]); refine kq 0 ?_; refine kq 1 ?_; refine kq 2 ?_; refine tn 3 ?_; refine tn 4 ?_; refine tn 5 ?_; refine tn 6 ?_; refine tn 7 ?_; refine tn 8 ?_; refine kq 9 ?_; refine zD ?_; have HI : Hid (uN (fun b => w1.heap.size < b) w8.drew { svD t with t := { t with pf := p1 } }) := qh ⟨(HI0.o _ _).l, (HI0.o _ _).r, (HI0.o _ _).ws⟩
    go_wp2_with (first
     | (refine qL rf (.tmp 2) rf rf HS.o ?_)
     | (refine kH rfl (.tmp 4) (.tmp 89) rf rf rf HS.o HI.o ?_; intro w8 HR8 HB8 HI8))
    exact zC (qV rfl rfl HR8.o) rfl ⟨{ svD t with t := { t with pf := p1 } }, by rw [HON.o]; rfl, (fun y hy => by rw [HON.o] at hy; cases hy; first | rfl | done), HS.o.o.p16, HI8.o, HB8.o⟩
   |true =>
    have HO2 : Hid (o = if fC p1 = x then (if q = true then Sc.behW { t with pf := p1 } r else if r = [] then some { t with pf := p1 } else none) else none) := qh (by rw [HO.o, show Sc.behP q t (x :: r) = (match vR x with | some p => if fC p = x then (if q = true then Sc.behW { t with pf := p } r else if r = [] then some { t with pf := p } else none) else none | none => none) from rfl, HPS0.o rfl]); clear HO HPN HPS0
    by_cases hs : fC p1 = x
    ·have he : (fC p1 == x) = true := uP.2 hs
     have HO3 : Hid (o = if q = true then Sc.behW { t with pf := p1 } r else if r = [] then some { t with pf := p1 } else none) := qh (by rw [HO2.o, zN hs]); clear hs HO2; refine kq 0 ?_; refine kq 1 ?_; refine kq 2 ?_; refine kY 3 rfl (zR rfl (w4.heap.size) rfl _ (pfA p1) _ (fun w h => h.2) underlying26 rfl HPI.o) ?_; refine kq 5 ?_; refine kq 6 ?_; refine kh 7 (fun w h => HC.o w h.1.b) ?_; refine zS 4 fun K hK => ?_; go_simp; refine zT (HSH.o _) fun w9 hb9 => ?_; have HV9 : BhS w w.heap.size w1.heap.size { svD t with t := { t with pf := p1 } } w9 /\ Blk w9 w4.heap.size 26 (pfA p1) := ⟨hHeld.1.next hb9, hHeld.2.below hb9 hHeld.2.lt⟩; go_wp2_with fail
     refine zK hK (HV9) fun hHeld => ?_; clear hK K; refine kq 8 ?_ (hy := by intro w h; have z := he; have z2 := vX; go_simp; try with_reducible rfl); refine kq 9 ?_; refine zD ?_; replace HS := qh hHeld.1; have c0 : w9.cell? ⟨w.heap.size, 0, none⟩ = some (.int .i64 (k : Int)) := by rw [HS.o.o.c0]; exact yG (fun z => some (Value.int .i64 z)) HKD.o
     go_wp2_with fail
     refine (HRS.o _).mono ?_; rintro e w10 ⟨rfl, rfl⟩
     cases q with
     |false =>
      first
      | exact absurd HQ.o zd
      |skip
       have HI : Hid (uN (fun b => w1.heap.size < b) w10 { svD t with t := { t with pf := p1 } }) := qh ⟨(HI0.o _ _).l, (HI0.o _ _).r, (HI0.o _ _).ws⟩
       by_cases hr0 : r = []
       ·have HON : Hid (o = some { t with pf := p1 }) := qh (by rw [HO3.o, zH zd, zN hr0])
        subst hr0; simp only [xI] at *
        go_wp2_with (first
         | (refine qL rf (.tmp 2) rf rf HS.o ?_)
         | (refine kH rfl (.tmp 4) (.tmp 94) rf rf rf HS.o HI.o ?_; intro w8 HR8 HB8 HI8))
        exact zC (qV rfl rfl HR8.o) rfl ⟨{ svD t with t := { t with pf := p1 } }, by rw [HON.o]; rfl, (fun y hy => by rw [HON.o] at hy; cases hy; first | rfl | done), HS.o.o.p16, HI8.o, HB8.o⟩
       ·have HON : Hid (o = none) := qh (by rw [HO3.o, zH zd, zH hr0])
        have hd1 : ((r.length : Int) + 1 == 1) = false := by
         have := kU.2 hr0; simp only [yF, qR]; omega
        clear hr0
        go_wp2_with (first
         | (refine qL rf (.tmp 2) rf rf HS.o ?_)
         | (refine kH rfl (.tmp 4) (.tmp 94) rf rf rf HS.o HI.o ?_; intro w8 HR8 HB8 HI8))
        exact zC (qV rfl rfl HR8.o) rfl ⟨{ svD t with t := { t with pf := p1 } }, by rw [HON.o]; rfl, (fun y hy => by rw [HON.o] at hy; cases hy; first | rfl | done), HS.o.o.p16, HI8.o, HB8.o⟩
     |true =>
      first
      | exact absurd HQ.o zd
      |skip
       have HO4 : Hid (o = match Sc.waysN r with | some q => some { t with pf := p1, ways := q } | none => none) := qh (by rw [HO3.o]; first | rfl | (simp only [aB]; rfl)); have HWY := qh fun (W : World) (v : Value) (h : SlR W 1 encS v r) => r32_ways r om HXR.o v W h; have HV9' := qh (HVX.o w10 HS.o.b); generalize Sc.waysN r = oo at *; clear HO3
       go_wp2_with (refine fM rfl 79 (.tmp 99) rf underlying79 (fun w => kf) (v := .slice (some ⟨b, off, none⟩) (r.length + 1) cap) rf HV9'.o ?_; intro v6 hv6; have HV6 := qh hv6.sl; clear hv6)
       refine (HWY.o _ _ HV6.o).mono ?_; rintro e w11 ⟨v4, ws, rfl, hws, hsl, hb11⟩; have HZ10 := HS.o.r.lt; replace HS := qh (HS.o.next hb11); have HSL := qh hsl; obtain ⟨p4, c4, rfl, -⟩ := hsl; have c30 := HS.o.o.c30; have f30 := HS.o.o.fz 30; clear hb11 c0
       go_upto_region 28 with fail
       have HS9 := qh (HS.o.set (vH _ _ _ _) (HS.o.o.setW ws (.slice p4 ws.length c4))); have HI : Hid (uN (fun b => w1.heap.size < b) (w11.setCell ⟨w.heap.size, 30, none⟩ (.slice p4 ws.length c4)) { svD t with t := { t with pf := p1, ways := ws }, vw := .slice p4 ws.length c4 }) := qh ⟨(HI0.o _ _).l, (HI0.o _ _).r, (HSL.o.imp (Qr := fun b => w1.heap.size < b) (fun b hb => om)).grown (vH _ _ _ _) (fun b hb e => by cases e; have := HZR.o; omega)⟩; replace HS := HS9; clear c30 f30
       cases oo with
       |none =>
        have HON : Hid (o = none) := HO4
        go_wp2_with (first
         | (refine qL rf (.tmp 2) rf rf HS.o ?_)
         | (refine kH rfl (.tmp 4) (.tmp 106) rf rf rf HS.o HI.o ?_; intro w8 HR8 HB8 HI8))
        exact zC (qV rfl rfl HR8.o) rfl ⟨{ svD t with t := { t with pf := p1, ways := ws }, vw := .slice p4 ws.length c4 }, by rw [HON.o]; rfl, (fun y hy => by rw [HON.o] at hy; cases hy; first | rfl | done), HS.o.o.p16, HI8.o, HB8.o⟩
       |some h2 =>
        have HON : Hid (o = some { t with pf := p1, ways := ws }) := qh (by rw [HO4.o, hws h2 rfl])
        go_wp2_with (first
         | (refine qL rf (.tmp 2) rf rf HS.o ?_)
         | (refine kH rfl (.tmp 4) (.tmp 106) rf rf rf HS.o HI.o ?_; intro w8 HR8 HB8 HI8))
        exact zC (qV rfl rfl HR8.o) rfl ⟨{ svD t with t := { t with pf := p1, ways := ws }, vw := .slice p4 ws.length c4 }, by rw [HON.o]; rfl, (fun y hy => by rw [HON.o] at hy; cases hy; first | rfl | done), HS.o.o.p16, HI8.o, HB8.o⟩
    ·have he : (fC p1 == x) = false := yF.2 hs
     have HON : Hid (o = none) := qh (by rw [HO2.o, zH hs]); clear hs HO2; refine kq 0 ?_; refine kq 1 ?_; refine kq 2 ?_; refine kY 3 rfl (zR rfl (w4.heap.size) rfl _ (pfA p1) _ (fun w h => h.2) underlying26 rfl HPI.o) ?_; refine kq 5 ?_; refine kq 6 ?_; refine kh 7 (fun w h => HC.o w h.1.b) ?_; refine zS 4 fun K hK => ?_; go_simp; refine zT (HSH.o _) fun w9 hb9 => ?_; have HV9 : BhS w w.heap.size w1.heap.size { svD t with t := { t with pf := p1 } } w9 /\ Blk w9 w4.heap.size 26 (pfA p1) := ⟨hHeld.1.next hb9, hHeld.2.below hb9 hHeld.2.lt⟩; go_wp2_with fail
     refine zK hK (HV9) fun hHeld => ?_; clear hK K; refine kq 8 ?_ (hy := by intro w h; have z := he; have z2 := vX; go_simp; try with_reducible rfl); refine kq 9 ?_; refine zD ?_; replace HS := qh hHeld.1; have HI : Hid (uN (fun b => w1.heap.size < b) w9 { svD t with t := { t with pf := p1 } }) := qh ⟨(HI0.o _ _).l, (HI0.o _ _).r, (HI0.o _ _).ws⟩
     go_wp2_with (first
      | (refine qL rf (.tmp 2) rf rf HS.o ?_)
      | (refine kH rfl (.tmp 4) (.tmp 89) rf rf rf HS.o HI.o ?_; intro w8 HR8 HB8 HI8))
     exact zC (qV rfl rfl HR8.o) rfl ⟨{ svD t with t := { t with pf := p1 } }, by rw [HON.o]; rfl, (fun y hy => by rw [HON.o] at hy; cases hy; first | rfl | done), HS.o.o.p16, HI8.o, HB8.o⟩
end Go.Proofs.YtdbgeobolongmaaGreatDoor
