/- Part of the proof: ScriptLines, ScriptParses, ScriptShows. -/
import Derived.Deep.Cut
import Derived.RowKit3
import Derived.ChangeMaps5
import Derived.ChangeArms
import Derived.Test.YtdbgeobolongmaaGreatDoorSA28
import Derived.Test.YtdbgeobolongmaaGreatDoorSA34
set_option linter.unusedVariables false
set_option linter.unusedSimpArgs false
set_option maxRecDepth 100000
set_option maxHeartbeats 8000000
namespace Go.Proofs.YtdbgeobolongmaaGreatDoor
open Go.RowKit Go.Shelf Go.Proofs Go.OctetPlain Go.PrefixPlain Go.Proofs.Tryz
def wsA (t : Sc.Stp) (x : Hp.Wd) : List Hp.Wd := x :: (Sc.partsOf x).flatMap fun p => shwA p t
def sG (t : Sc.Stp) : List UInt8 := match Sc.wordOf t with | some x => Hp.join (wsA t x) | none => []
def tH (t : Sc.Stp) : List UInt8 := if Sc.oneR (sG t) = some t then sG t else []
theorem okOne {W : World} {s : StV} {l : List UInt8} (h : Sc.oneR l = some s.t) (hl : l.length <= 65536) (p16 : s.t.pf.addr.length = 16) (hi : xX (fun _ => True) W s) : wM W s := by
 have hf := (Sc.one_fits h).hop; have hs := one_sz h hl
 have hh : s.t.hop.labels.length <= 1073741824 /\ s.t.hop.repair.length <= 1073741824 := by
  rcases hf with hf | hf
  ·rw [hf]; exact ⟨zd, zd⟩
  ·have hv := (Hp.check_iff _).1 hf
   have h1 := hv.n1; have h2 := hv.n2; exact ⟨om, om⟩
 exact ⟨hi, p16, hh.1, hh.2, hs.1, hs.2⟩
theorem words_le : ∀ l : List Hp.Wd, l.length <= (Hp.join l).length + 1
 | [] => zi
 | [w] => by simp [Hp.join]
 |w :: v :: r => by
  have := words_le (v :: r); simp only [Hp.join, zG, zI] at this ⊢; omega
theorem lJ {P : Program} {OPS : Array Oper} {Q : Exit -> Act -> World -> Prop} {o : Oper} {rest : List Oper} {a : Act} {w : World} (hw : Region.wanted o (yielded OPS a.tmps) = false) (h : wpList P OPS Q rest (a.put o.dst undef) w) : wpList P OPS Q (o :: rest) a w := by
 unfold wpList; rw [zH (by rw [hw]; decide)]; exact h
theorem aH {P : Program} {OPS : Array Oper} {Q : Exit -> Act -> World -> Prop} {o : Oper} {rest : List Oper} {a : Act} {w : World} (hw : Region.wanted o (yielded OPS a.tmps) = false) (hp : a.put o.dst undef = a) (h : wpList P OPS Q rest a w) : wpList P OPS Q (o :: rest) a w :=
 lJ hw (by rw [hp]; exact h)
def tQ (lo hi : Nat) (w : World) : List (Value × Value) -> List Sc.Part -> Prop
 | [], [] => True
 | (vs, vr) :: r, p :: ps => kK lo hi w p vs vr /\ tQ lo hi w r ps
 | _, _ => False
theorem tQ.of {lo : Nat} {w : World} : ∀ {r : List (Value × Value)} {ps : List Sc.Part}, wK lo w r ps -> tQ lo w.heap.size w r ps
 | [], [], _ => trivial
 | [], _ :: _, h => h.elim
 | (_, _) :: _, [], h => h.elim
 | (_, _) :: _, _ :: _, h => ⟨h.1, tQ.of h.2⟩
theorem tQ.len {lo hi : Nat} {w : World} : ∀ {r : List (Value × Value)} {ps : List Sc.Part}, tQ lo hi w r ps -> r.length = ps.length
 | [], [], _ => rfl
 | [], _ :: _, h => h.elim
 | (_, _) :: _, [], h => h.elim
 | (_, _) :: _, _ :: _, h => by rw [zI, zI, h.2.len]
theorem tQ.mono {lo hi : Nat} {w w' : World} (ha : Agree lo hi w w') : ∀ {r : List (Value × Value)} {ps : List Sc.Part}, tQ lo hi w r ps -> tQ lo hi w' r ps
 | [], [], _ => trivial
 | [], _ :: _, h => h.elim
 | (_, _) :: _, [], h => h.elim
 | (_, _) :: _, _ :: _, h => ⟨h.1.mono ha zn zn, tQ.mono ha h.2⟩
theorem tQ.get {lo hi : Nat} {w : World} : ∀ {r : List (Value × Value)} {ps : List Sc.Part}, tQ lo hi w r ps -> ∀ {i : Nat} {p : Sc.Part} {vs vr : Value}, ps[i]? = some p -> r[i]? = some (vs, vr) -> kK lo hi w p vs vr
 | [], [], _, i, p, vs, vr, h1, h2 => by simp at h1
 | [], _ :: _, h, _, _, _, _, _, _ => h.elim
 | (_, _) :: _, [], h, _, _, _, _, _, _ => h.elim
 |(a, b) :: r, q :: ps, h, 0, p, vs, vr, h1, h2 => by
  simp only [xA, uX, rZ] at h1 h2; obtain ⟨rfl, rfl⟩ := h2; subst h1; exact h.1
 | (a, b) :: r, q :: ps, h, i + 1, p, vs, vr, h1, h2 => h.2.get (by simpa using h1) (by simpa using h2)
def PIn (lo hi : Nat) (w : World) (v : Value) (ps : List Sc.Part) : Prop := ∃ rows, tQ lo hi w rows ps /\ SlP (fun b => lo <= b /\ b < hi /\ ∃ t cs, Blk w b t cs) w 2 encPt v rows
theorem PIn.of {lo : Nat} {w : World} {v : Value} {ps : List Sc.Part} (h : uM lo w v ps) : PIn lo w.heap.size w v ps := by
 obtain ⟨rows, h1, h2⟩ := h; exact ⟨rows, .of h1, h2.bd.imp fun b hb => ⟨hb.1.1, hb.2, hb.1.2⟩⟩
theorem PIn.agree {lo hi : Nat} {w w' : World} {v : Value} {ps : List Sc.Part} (h : PIn lo hi w v ps) (ha : Agree lo hi w w') (hz : w.heap.size <= w'.heap.size) : PIn lo hi w' v ps := by
 obtain ⟨rows, h1, p, c, e, l1, l2, hR, hq⟩ := h; refine ⟨rows, h1.mono ha, p, c, e, l1, l2, ⟨hR.1, fun a hp hn => ?_⟩, fun a hp hn => ?_⟩
 ·obtain ⟨r1, r2, r3⟩ := hR.2 a hp hn
  obtain ⟨q1, q2, t, cs, hb⟩ := hq a hp hn; refine ⟨r1, xC r2 hz, fun i x hx j u hu => ?_⟩; have hw := r3 i x hx j u hu; have hb' := ha a.block q1 q2 cs t (0, 0) hb; have hb2 : w.heap[a.block]? = some (.cells cs t (0, 0)) := hb; simp only [World.cell?, hb2] at hw; simp only [World.cell?, hb']; exact hw
 ·obtain ⟨q1, q2, t, cs, hb⟩ := hq a hp hn
  exact ⟨q1, q2, t, cs, ha a.block q1 q2 cs t (0, 0) hb⟩
theorem SlP.low {α : Type} {enc : α -> List Value} {w w' : World} {k B C : Nat} {v : Value} {xs : List α} (h : SlP (· < B) w k enc v xs) (hb : Below C w w') (hB : B <= C) : SlP (· < B) w' k enc v xs := by
 obtain ⟨p, c, e, l1, l2, hR, hq⟩ := h; refine ⟨p, c, e, l1, l2, ⟨hR.1, fun a hp hn => ?_⟩, hq⟩; obtain ⟨r1, r2, r3⟩ := hR.2 a hp hn; refine ⟨r1, xC r2 hb.size, fun i x hx j u hu => ?_⟩; exact (hb.cell (p := ⟨a.block, a.off + i * k + j, none⟩) (xC (hq a hp hn) hB)).trans (r3 i x hx j u hu)
theorem xX.low {w w' : World} {B C : Nat} {s : StV} (h : xX (· < B) w s) (hb : Below C w w') (hB : B <= C) : xX (· < B) w' s := ⟨h.l.low hb hB, h.r.low hb hB, h.ws.low hb hB, h.b.low hb hB⟩
theorem xX.bd {w : World} {s : StV} {q : Nat -> Prop} (h : xX q w s) : xX (· < w.heap.size) w s := ⟨h.l.bd.imp fun _ h => h.2, h.r.bd.imp fun _ h => h.2, h.ws.bd.imp fun _ h => h.2, h.b.bd.imp fun _ h => h.2⟩
theorem Agree.of_grownO {lo hi : Nat} {w w' : World} {ob : Option Nat} (h : w.grownBy w' ob) (hn : ∀ g, ob = some g -> ¬ (lo <= g /\ g < hi)) : Agree lo hi w w' := fun k h1 h2 cs t fr hc =>
 (h.block k (xB.1 hc).1 (fun e => hn k e.symm ⟨h1, h2⟩)).trans hc
structure LnS (w : World) (X base lo hi : Nat) (ps : List Sc.Part) (s : StV) (x : Hp.Wd) (k : Nat) (vl vk : Value) (wr : World) : Prop where
 S : StAt wr X s
 I : xX (· < X) wr s
 own : wr.ownsRow base 9 1 vl (x :: (ps.take k).flatMap fun p => shwA p s.t).length (flat encS (x :: (ps.take k).flatMap fun p => shwA p s.t))
 ob : ∀ g, vl.ownBlock = some g -> ¬ (lo <= g /\ g < hi)
 P : PIn lo hi wr vk ps
 B : zW w wr
 T : ST w
 hz : hi <= wr.heap.size
 bz : base < lo /\ lo <= hi
 XB : X < base
 wX : w.heap.size <= X
theorem LnS.below {w wr w' : World} {X base lo hi k : Nat} {ps : List Sc.Part} {s : StV} {x : Hp.Wd} {vl vk : Value} (h : LnS w X base lo hi ps s x k vl vk wr) (hb : zW wr w') : LnS w X base lo hi ps s x k vl vk w' :=
 ⟨h.S.next hb, h.I.low hb (jI h.S.lt), vL h.own hb zn, h.ob, h.P.agree (Agree.of_below hb h.hz) hb.size, h.B.trans (hb.mono h.B.size), h.T, yK h.hz hb.size, h.bz, h.XB, h.wX⟩
theorem LnS.app {w wr w' : World} {X base lo hi k : Nat} {ps : List Sc.Part} {s : StV} {x : Hp.Wd} {vl vk v' : Value} (h : LnS w X base lo hi ps s x k vl vk wr) {p : Sc.Part} (hp : ps.take (k + 1) = ps.take k ++ [p])
  (ho : w'.ownsRow base 9 1 v' ((x :: (ps.take k).flatMap fun p => shwA p s.t).length + (shwA p s.t).length) (flat encS (x :: (ps.take k).flatMap fun p => shwA p s.t) ++ flat encS (shwA p s.t))) (hg : wr.grownBy w' vl.ownBlock) (hob : v'.ownBlock = vl.ownBlock ∨ v'.ownBlock = some wr.heap.size) (hb : Below base wr w') : LnS w X base lo hi ps s x (k + 1) v' vk w' := by
 refine ⟨h.S.below hb h.XB, h.I.low hb (jI h.XB), ?_, fun g e => ?_, h.P.agree (Agree.of_grownO hg h.ob) hb.size, ?_, h.T, yK h.hz hb.size, h.bz, h.XB, h.wX⟩
 ·have e : (x :: (ps.take (k + 1)).flatMap fun p => shwA p s.t) = (x :: (ps.take k).flatMap fun p => shwA p s.t) ++ shwA p s.t := by rw [hp]; simp
  rw [e, vK, zG]; exact ho
 ·rcases hob with h1 | h1
  ·rw [h1] at e; exact h.ob g e
  ·rw [h1] at e; cases e; have := h.hz; omega
 ·exact h.B.trans (hb.mono (by have := h.wX; have := h.XB; omega))
theorem take_flat (ps : List Sc.Part) (f : Sc.Part -> List Hp.Wd) (k : Nat) : ((ps.take k).flatMap f).length <= (ps.flatMap f).length := by
 conv => rhs; rw [← kC k ps, uI, zG]
 omega
theorem line_packet (s : StV) (w : World) (ht : ST w) (hin : xX (fun _ => True) w s) (p16 : s.t.pf.addr.length = 16) (hsb : SB s.t) (hi : s.t.is = true) (x : Hp.Wd) (hx : Sc.wordOf s.t = some x) (hj : (Hp.join (wsA s.t x)).length <= 65536) (hxl : x.length <= 1000) :
  zCB 14 #[.agg (zY s)] w (.string (str (tH s.t))) := by
 have HX := qh hx; have HT := qh ht; have HIN := qh hin; have HSB := qh hsb; have HS0 : Hid (∀ w1, w1 = w.alloc (.cells (zY s) 37) -> StAt w1 w.heap.size s) := qh fun w1 h => by subst h; exact ⟨Blk.new _ _ _, p16⟩
 have HI0 : Hid (s.t.is = true /\ s.t.is = true) := qh ⟨hi, hi⟩
 have hxe : x = if s.t.mpls = true then Sc.wMpls else Sc.wIp := by
  unfold Sc.wordOf at hx; rw [zN hi] at hx; exact (vW hx).symm
 clear hx ht hin hsb hi p16; have HP := qh fun W => zEh x om W; have hwl : (wsA s.t x).length <= 65537 := by have := words_le (wsA s.t x); omega
 have HJ : Hid (∀ W v, SlR W 1 encS v (wsA s.t x) -> zCB 34 #[v, .string ⟨#[32]⟩] W (.string (str (Hp.join (wsA s.t x))))) := qh fun W v hv => zAs _ om om v W hv; have HON : Hid (∀ W, ST W -> Calls prog 10 #[.string (str (Hp.join (wsA s.t x)))] W (zEi (Sc.oneR (Hp.join (wsA s.t x))) W)) := qh fun W h => oG _ hj W h; have HLA : Hid (tH s.t = if Sc.oneR (Hp.join (wsA s.t x)) = some s.t then Hp.join (wsA s.t x) else []) := qh (by unfold tH sG; rw [HX.o]); have HWS : Hid (wsA s.t x = x :: (Sc.partsOf x).flatMap fun p => shwA p s.t) := qh rfl; have HPL : Hid ((Sc.partsOf x).length <= 3) := qh (lZ x); have hfl : ∀ k, (((Sc.partsOf x).take k).flatMap (fun p => shwA p s.t)).length <= 65537 := fun k => by have := take_flat (Sc.partsOf x) (fun p => shwA p s.t) k; rw [HWS.o] at hwl; simp only [zI] at hwl; omega
 have HFL := qh hfl; have HJ0 := qh hj; clear hfl hwl HX hj hxl; generalize Sc.partsOf x = ps at *; generalize tH s.t = ln at *; generalize hoe : Sc.oneR (Hp.join (wsA s.t x)) = o at *; have HOE := qh hoe; clear hoe
 cases hm : s.t.mpls
 have HM := qh hm; have HLT : Hid ((⟨#[105, 112]⟩ : ByteArray) = str x) := qh (by rw [hxe, hm]; rfl); clear hxe hm
 go_enter func14, ntmps14
 go_upto_region 4 with (refine yS rfl _ (.tmp 0) rf (zY s) rf ?_; intro w1 E1; have HS1 := qh (HS0.o w1 E1); have HB1 : Hid (zW w w1) := (by rw [E1]; exact qh (yD w _)); clear E1; have HT1 := qh (HT.o.below HB1.o); have hz1 := HS1.o.lt; have cs0 := HS1.o.c0; have cs34 := HS1.o.c34; have cs1 := HS1.o.c1; rw [HI0.o.1] at cs0; rw [HM.o] at cs34)
 refine jD ?_
 iterate 11 go_step
 generalize hA : (Act.mk _ _ : Act) = A; rename_i K hK; refine hK A w1 ?_; clear hK K
 iterate 10 (refine aH (by rw [← hA]; kernel_rfl) (by rw [← hA]; kernel_rfl) ?_)
 subst hA; go_wp2_with fail
 rw [HLT.o]; rotate_left; have HM := qh hm; have HLT : Hid ((⟨#[109, 112, 108, 115]⟩ : ByteArray) = str x) := qh (by rw [hxe, hm]; rfl); clear hxe hm
 go_enter func14, ntmps14
 go_wp2_with (refine yS rfl _ (.tmp 0) rf (zY s) rf ?_; intro w1 E1; have HS1 := qh (HS0.o w1 E1); have HB1 : Hid (zW w w1) := (by rw [E1]; exact qh (yD w _)); clear E1; have HT1 := qh (HT.o.below HB1.o); have hz1 := HS1.o.lt; have cs0 := HS1.o.c0; have cs34 := HS1.o.c34; have cs1 := HS1.o.c1; rw [HI0.o.1] at cs0; rw [HM.o] at cs34)
 rw [HLT.o]
 all_goals
  have HI2 := qh (HIN.o.bd.low HB1.o zn); have HO2 := qh (zAe w1 9 #[.string (str x)] 1 rfl om); have hb2 := yD w1 (.cells #[.string (str x)] 9); have HB2 := qh hb2; refine (HP.o _).mono ?_; rintro e w3 ⟨v3, rfl, hb3, hp3⟩; have hz3 := hb3.size; have HB3 : Hid (zW w1 w3) := qh (HB2.o.trans (hb3.mono zi)); have HL3 : Hid (LnS w w.heap.size w1.heap.size (w1.heap.size + 1) w3.heap.size ps s x 0 (.slice (some ⟨w1.heap.size, 0, none⟩) 1 1) v3 w3) := qh ⟨HS1.o.next HB3.o, HI2.o.low HB3.o (jI hz1), vL HO2.o hb3 zn, (fun g e => by simp [Value.ownBlock] at e; omega), PIn.of (by simpa using hp3), HB1.o.trans (HB3.o.mono HB1.o.size), HT.o, yZ _, ⟨om, by simpa using hz3⟩, hz1, yZ _⟩; clear hb3 hp3 hb2; obtain ⟨rows, hpl, p5, c5, rfl, -⟩ := HL3.o.P; have hlr := hpl.len; have hn5 : rows.length <= 3 := by rw [hlr]; exact HPL.o
  clear hpl cs0 cs34 cs1; go_wp2_with fail
  rw [hlr] at HL3; clear hlr hn5
  go_loopw [4, 6, 48] (fun vl _ vi wr => ∃ (k : Nat), vi = .int .i64 k /\ k <= ps.length /\ Hid (LnS w w.heap.size w1.heap.size (w1.heap.size + 1) w3.heap.size ps s x k vl (.slice p5 ps.length c5) wr)) (fun _ _ vi _ => ps.length - (intOf vi).toNat)
  case atStart => exact ⟨0, rfl, yQ _, HL3⟩
  case round =>
   obtain ⟨k, rfl, hk, HU⟩ := hrel; have hps := HPL.o; have hwr := HU.o.B.size; have hbz := HU.o.bz; have hhz := HU.o.hz
   by_cases hlt : k < ps.length
   ·obtain ⟨pk, hpk⟩ : ∃ p, ps[k]? = some p := ⟨_, zA hlt⟩
    obtain ⟨rows, hpl, hsl⟩ := HU.o.P; obtain ⟨p6, c6, hvv, q1, q2, hR, -⟩ := hsl; have hlr : rows.length = ps.length := hpl.len; have hrk : k < rows.length := om; obtain ⟨b6, o6, hb6, hbl6, hc⟩ := hR.at hrk; injection hvv with e1 e2 e3
    subst e1 e3 hb6; clear e2; obtain ⟨vs, vr, hvr⟩ : ∃ vs vr, rows[k] = (vs, vr) := ⟨_, _, rfl⟩; rw [hvr] at hc; have hc0 := hc 0 vs rfl; have hc1 := hc 1 vr rfl; simp only [xN] at hc0; have hpv := hpl.get hpk (by rw [zA hrk, hvr]); obtain ⟨f, g, cf, cg, rfl, rfl, ef, eg, hsh, hrd⟩ := hpv; have hent := ef; unfold Ent at hent; have HTK : Hid (ps.take (k + 1) = ps.take k ++ [pk]) := qh (by obtain ⟨h8, h9⟩ := zL.1 hpk; rw [yA hlt, h9]); have HBX : Hid (zW wr (wr.alloc (.cells #[.func (.func f) #[] cf, .func (.func g) #[] cg] 88))) := qh (yD wr _); have HU2 := qh (HU.o.below HBX.o); have HSH := qh (hsh (wr.alloc (.cells #[.func (.func f) #[] cf, .func (.func g) #[] cg] 88)) w.heap.size s (Agree.of_below HBX.o hhz) zo (HT.o.below HU2.o.B) HU2.o.S (HU2.o.I.imp fun _ _ => trivial) HSB.o); have hf1 := HFL.o (k + 1); rw [HTK.o, uI, zG] at hf1; simp only [vT, List.flatMap_nil, vC] at hf1; clear hc hpl hR hsh hrd hpk hvr ef eg; go_wp2_with fail
    refine HSH.o.mono ?_; rintro e w7 ⟨v7, rfl, hv7, hb7⟩; have HU7 := qh (HU2.o.below hb7); obtain ⟨p7, c7, rfl, z1, z2, hr7⟩ := hv7; have HR7 := qh hr7; have hbz7 := HU7.o.bz; have hhz7 := HU7.o.hz; have HAPP := qh fun v' w' => HU7.o.app (v' := v') (w' := w') HTK.o; have HO7 := qh HU7.o.own; clear hb7 hr7 HSH; simp only [zI] at HO7; generalize shwA pk s.t = sw at *
    go_wp2_with (at_builtin; go_loud (refine nP rT rfl (.tmp 52) (.tmp 55) rfl w1.heap.size _ _ _ rfl HO7.o encS vU p7 c7 sw rfl HR7.o pE om om ?_; intro v8 w8 hown8 hgr8 hob8 hb8; have HN8 := qh (HAPP.o _ _ hown8 hgr8 hob8 hb8); clear hown8 hgr8 hob8 hb8))
    exact ⟨⟨k + 1, by go_num, om, HN8⟩, by simp [intOf]; omega⟩
   ·obtain rfl : k = ps.length := om
    have HV9 : Hid (SlR wr 1 encS u4 (wsA s.t x)) := qh (by
     have h := SlR.of_owns vU HU.o.own; rw [xK, ← HWS.o] at h; exact h)
    obtain ⟨p9, c9, rfl, -, -, -⟩ := HV9.o; have HSP := qh HU.o.S; have HBP := qh HU.o.B; have HIP := qh (HU.o.I.imp (r := fun _ => True) fun _ _ => trivial); go_wp2_with fail
    refine zT (HJ.o _ _ HV9.o) fun w9 hb9 => ?_; have HB9 := qh (HBP.o.trans (hb9.mono HBP.o.size)); have HS9 := qh (HSP.o.next hb9); have HI9 := qh (HIP.o.below hb9 zn); clear hb9; go_wp2_with fail
    refine (HON.o _ (HT.o.below HB9.o)).mono ?_; rintro e w10 ⟨s', rfl, hst, hp16, hi', hb10⟩; have HB10 := qh (HB9.o.trans (hb10.mono HB9.o.size)); have HS10 := qh (HS9.o.next hb10); have HI10 := qh (HI9.o.below hb10 zn); have HI11 : Hid (xX (fun _ => True) w10 s') := qh (hi'.imp fun _ _ => trivial); have HST := qh hst; have HP16 := qh hp16
    have HF12 : Hid (∀ w11 w12, w11 = w10.alloc (.cells (zY (sv Sc.z)) 37) -> w12 = w11.setRow w10.heap.size (zY s') -> Blk w12 w10.heap.size 37 (zY s') /\ StAt w12 w.heap.size s /\ xX (fun _ => True) w12 s /\ xX (fun _ => True) w12 s' /\ zW w w12) := qh fun w11 w12 h1 h2 => by
     subst h1; rw [World.setRow_alloc_new] at h2; subst h2; exact ⟨Blk.new _ _ _, HS10.o.alloc _, HI10.o.below (yD _ _) zn, HI11.o.below (yD _ _) zn, HB10.o.alloc HB10.o.size _⟩
    clear hst hp16 hi' hb10
    cases o with
    |none =>
     have HL : Hid (ln = []) := qh (by rw [HLA.o, zH zi])
     go_wp2_with (first
      | (refine zQ rfl 37 rf _ bJ ?_; intro w11 hw11; have HE11 := qh hw11; have HX11 : Hid (Blk w11 w10.heap.size 37 (zY (sv Sc.z))) := (by rw [hw11]; exact qh (Blk.new _ _ _)); clear hw11)
      | (refine zJ rfl 37 (.tmp 8) (.tmp 63) rf w10.heap.size (zY s') rf rf _ _ HX11.o (by rw [zO]; exact uQ) (by rw [zO, zO]) HI11.o.one ?_; intro w12 hw12; have H12 := qh (HF12.o w11 w12 HE11.o hw12); clear hw12))
     go_ret
     exact ⟨by rw [HL.o]; rfl, H12.o.2.2.2.2⟩
    |some y =>
     have HYS : Hid (s'.t = y) := qh HST.o
     have HOK : Hid (∀ W, StAt W w.heap.size s -> xX (fun _ => True) W s -> xX (fun _ => True) W s' -> zCB 35 #[.agg (zY s), .agg (zY s')] W (.bool (decide (s.t = s'.t)))) := qh fun W h1 h2 h3 => by
      have hb := HSB.o; exact scr_same s s' W ⟨h2, h1.p16, by have := hb.hop.n1; omega, by have := hb.hop.n2; omega, by have := hb.wl; omega, by have := hb.bl; omega⟩ (okOne (by rw [HOE.o, HYS.o]) HJ0.o HP16.o h3)
     by_cases hss : s.t = s'.t
     ·have HL : Hid (ln = Hp.join (wsA s.t x)) := qh (by rw [HLA.o, zN (by rw [hss, HYS.o])])
      rw [zV hss] at HOK; clear hss
      go_wp2_with (first
      | (refine zQ rfl 37 rf _ bJ ?_; intro w11 hw11; have HE11 := qh hw11; have HX11 : Hid (Blk w11 w10.heap.size 37 (zY (sv Sc.z))) := (by rw [hw11]; exact qh (Blk.new _ _ _)); clear hw11)
      | (refine zJ rfl 37 (.tmp 8) (.tmp 63) rf w10.heap.size (zY s') rf rf _ _ HX11.o (by rw [zO]; exact uQ) (by rw [zO, zO]) HI11.o.one ?_; intro w12 hw12; have H12 := qh (HF12.o w11 w12 HE11.o hw12); clear hw12)
      | (refine yI rf 37 (.tmp 1) rf w.heap.size rf _ (zY s) (0, 0) _ H12.o.2.1.b underlying37 rfl (by rw [zO]; exact uQ) ?_)
      | (refine yI rf 37 (.tmp 8) rf w10.heap.size rf _ (zY s') (0, 0) _ H12.o.1 underlying37 rfl (by rw [zO]; exact uQ) ?_))
      refine zT (HOK.o _ H12.o.2.1 H12.o.2.2.1 H12.o.2.2.2.1) fun w13 hb13 => ?_; have HB13 := qh (H12.o.2.2.2.2.trans (hb13.mono H12.o.2.2.2.2.size)); clear hb13
      go_wp2
      go_ret
      exact ⟨by rw [HL.o]; rfl, HB13.o⟩
     ·have HL : Hid (ln = []) := qh (by rw [HLA.o, zH (fun h => hss (by cases h; exact HYS.o.symm))])
      rw [zM hss] at HOK; clear hss
      go_wp2_with (first
      | (refine zQ rfl 37 rf _ bJ ?_; intro w11 hw11; have HE11 := qh hw11; have HX11 : Hid (Blk w11 w10.heap.size 37 (zY (sv Sc.z))) := (by rw [hw11]; exact qh (Blk.new _ _ _)); clear hw11)
      | (refine zJ rfl 37 (.tmp 8) (.tmp 63) rf w10.heap.size (zY s') rf rf _ _ HX11.o (by rw [zO]; exact uQ) (by rw [zO, zO]) HI11.o.one ?_; intro w12 hw12; have H12 := qh (HF12.o w11 w12 HE11.o hw12); clear hw12)
      | (refine yI rf 37 (.tmp 1) rf w.heap.size rf _ (zY s) (0, 0) _ H12.o.2.1.b underlying37 rfl (by rw [zO]; exact uQ) ?_)
      | (refine yI rf 37 (.tmp 8) rf w10.heap.size rf _ (zY s') (0, 0) _ H12.o.1 underlying37 rfl (by rw [zO]; exact uQ) ?_))
      refine zT (HOK.o _ H12.o.2.1 H12.o.2.2.1 H12.o.2.2.2.1) fun w13 hb13 => ?_; have HB13 := qh (H12.o.2.2.2.2.trans (hb13.mono H12.o.2.2.2.2.size)); clear hb13
      go_wp2
      go_ret
      exact ⟨by rw [HL.o]; rfl, HB13.o⟩
theorem line_op (s : StV) (w : World) (ht : ST w) (hin : xX (fun _ => True) w s) (p16 : s.t.pf.addr.length = 16) (hsb : SB s.t) (hi : s.t.is = false) (k : Nat) (hk16 : k < 16) (hkd : s.t.kind = (k : Int)) (x : Hp.Wd) (hkx : Sc.names[k]? = some x) (hj : (Hp.join (wsA s.t x)).length <= 65536) (hxl : x.length <= 1000) :
  zCB 14 #[.agg (zY s)] w (.string (str (tH s.t))) := by
 have HX : Hid (Sc.wordOf s.t = some x) := qh (by unfold Sc.wordOf; rw [zH (by rw [hi]; decide), zN (by rw [hkd]; omega), hkd]; simpa using hkx); have HT := qh ht; have HIN := qh hin; have HSB := qh hsb; have HS0 : Hid (∀ w1, w1 = w.alloc (.cells (zY s) 37) -> StAt w1 w.heap.size s) := qh fun w1 h => by subst h; exact ⟨Blk.new _ _ _, p16⟩
 have HI0 : Hid (s.t.is = false) := qh hi; have HKD := qh hkd; have HKX := qh hkx; clear ht hin hsb hi p16 hkd hkx; have HP := qh fun W => zEh x om W; have hwl : (wsA s.t x).length <= 65537 := by have := words_le (wsA s.t x); omega
 have HJ : Hid (∀ W v, SlR W 1 encS v (wsA s.t x) -> zCB 34 #[v, .string ⟨#[32]⟩] W (.string (str (Hp.join (wsA s.t x))))) := qh fun W v hv => zAs _ om om v W hv; have HON : Hid (∀ W, ST W -> Calls prog 10 #[.string (str (Hp.join (wsA s.t x)))] W (zEi (Sc.oneR (Hp.join (wsA s.t x))) W)) := qh fun W h => oG _ hj W h; have HLA : Hid (tH s.t = if Sc.oneR (Hp.join (wsA s.t x)) = some s.t then Hp.join (wsA s.t x) else []) := qh (by unfold tH sG; rw [HX.o]); have HWS : Hid (wsA s.t x = x :: (Sc.partsOf x).flatMap fun p => shwA p s.t) := qh rfl; have HPL : Hid ((Sc.partsOf x).length <= 3) := qh (lZ x); have hfl : ∀ k, (((Sc.partsOf x).take k).flatMap (fun p => shwA p s.t)).length <= 65537 := fun k => by have := take_flat (Sc.partsOf x) (fun p => shwA p s.t) k; rw [HWS.o] at hwl; simp only [zI] at hwl; omega
 have HFL := qh hfl; have HJ0 := qh hj; clear hfl hwl HX hj hxl; generalize Sc.partsOf x = ps at *; generalize tH s.t = ln at *; generalize hoe : Sc.oneR (Hp.join (wsA s.t x)) = o at *; have HOE := qh hoe; clear hoe
 go_enter func14, ntmps14
 go_wp2_with (refine yS rfl _ (.tmp 0) rf (zY s) rf ?_; intro w1 E1; have HS1 := qh (HS0.o w1 E1); have HB1 : Hid (zW w w1) := (by rw [E1]; exact qh (yD w _)); clear E1; have HT1 := qh (HT.o.below HB1.o); have hz1 := HS1.o.lt; have cs0 := HS1.o.c0; have cs34 := HS1.o.c34; have cs1 := HS1.o.c1; rw [HI0.o] at cs0; rw [HKD.o] at cs1; have cn := HT1.o.nm k x HKX.o)
 have HI2 := qh (HIN.o.bd.low HB1.o zn); have HO2 := qh (zAe w1 9 #[.string (str x)] 1 rfl om); have hb2 := yD w1 (.cells #[.string (str x)] 9); have HB2 := qh hb2; refine (HP.o _).mono ?_; rintro e w3 ⟨v3, rfl, hb3, hp3⟩; have hz3 := hb3.size; have HB3 : Hid (zW w1 w3) := qh (HB2.o.trans (hb3.mono zi)); have HL3 : Hid (LnS w w.heap.size w1.heap.size (w1.heap.size + 1) w3.heap.size ps s x 0 (.slice (some ⟨w1.heap.size, 0, none⟩) 1 1) v3 w3) := qh ⟨HS1.o.next HB3.o, HI2.o.low HB3.o (jI hz1), vL HO2.o hb3 zn, (fun g e => by simp [Value.ownBlock] at e; omega), PIn.of (by simpa using hp3), HB1.o.trans (HB3.o.mono HB1.o.size), HT.o, yZ _, ⟨om, by simpa using hz3⟩, hz1, yZ _⟩; clear hb3 hp3 hb2; obtain ⟨rows, hpl, p5, c5, rfl, -⟩ := HL3.o.P; have hlr := hpl.len; have hn5 : rows.length <= 3 := by rw [hlr]; exact HPL.o
 clear hpl cs0 cs34 cs1; go_wp2_with fail
 rw [hlr] at HL3; clear hlr hn5
 go_loopw [4, 6, 48] (fun vl _ vi wr => ∃ (k : Nat), vi = .int .i64 k /\ k <= ps.length /\ Hid (LnS w w.heap.size w1.heap.size (w1.heap.size + 1) w3.heap.size ps s x k vl (.slice p5 ps.length c5) wr)) (fun _ _ vi _ => ps.length - (intOf vi).toNat)
 case atStart => exact ⟨0, rfl, yQ _, HL3⟩
 case round =>
  obtain ⟨k, rfl, hk, HU⟩ := hrel; have hps := HPL.o; have hwr := HU.o.B.size; have hbz := HU.o.bz; have hhz := HU.o.hz
  by_cases hlt : k < ps.length
  ·obtain ⟨pk, hpk⟩ : ∃ p, ps[k]? = some p := ⟨_, zA hlt⟩
   obtain ⟨rows, hpl, hsl⟩ := HU.o.P; obtain ⟨p6, c6, hvv, q1, q2, hR, -⟩ := hsl; have hlr : rows.length = ps.length := hpl.len; have hrk : k < rows.length := om; obtain ⟨b6, o6, hb6, hbl6, hc⟩ := hR.at hrk; injection hvv with e1 e2 e3
   subst e1 e3 hb6; clear e2; obtain ⟨vs, vr, hvr⟩ : ∃ vs vr, rows[k] = (vs, vr) := ⟨_, _, rfl⟩; rw [hvr] at hc; have hc0 := hc 0 vs rfl; have hc1 := hc 1 vr rfl; simp only [xN] at hc0; have hpv := hpl.get hpk (by rw [zA hrk, hvr]); obtain ⟨f, g, cf, cg, rfl, rfl, ef, eg, hsh, hrd⟩ := hpv; have hent := ef; unfold Ent at hent; have HTK : Hid (ps.take (k + 1) = ps.take k ++ [pk]) := qh (by obtain ⟨h8, h9⟩ := zL.1 hpk; rw [yA hlt, h9]); have HBX : Hid (zW wr (wr.alloc (.cells #[.func (.func f) #[] cf, .func (.func g) #[] cg] 88))) := qh (yD wr _); have HU2 := qh (HU.o.below HBX.o); have HSH := qh (hsh (wr.alloc (.cells #[.func (.func f) #[] cf, .func (.func g) #[] cg] 88)) w.heap.size s (Agree.of_below HBX.o hhz) zo (HT.o.below HU2.o.B) HU2.o.S (HU2.o.I.imp fun _ _ => trivial) HSB.o); have hf1 := HFL.o (k + 1); rw [HTK.o, uI, zG] at hf1; simp only [vT, List.flatMap_nil, vC] at hf1; clear hc hpl hR hsh hrd hpk hvr ef eg; go_wp2_with fail
   refine HSH.o.mono ?_; rintro e w7 ⟨v7, rfl, hv7, hb7⟩; have HU7 := qh (HU2.o.below hb7); obtain ⟨p7, c7, rfl, z1, z2, hr7⟩ := hv7; have HR7 := qh hr7; have hbz7 := HU7.o.bz; have hhz7 := HU7.o.hz; have HAPP := qh fun v' w' => HU7.o.app (v' := v') (w' := w') HTK.o; have HO7 := qh HU7.o.own; clear hb7 hr7 HSH; simp only [zI] at HO7; generalize shwA pk s.t = sw at *
   go_wp2_with (at_builtin; go_loud (refine nP rT rfl (.tmp 52) (.tmp 55) rfl w1.heap.size _ _ _ rfl HO7.o encS vU p7 c7 sw rfl HR7.o pE om om ?_; intro v8 w8 hown8 hgr8 hob8 hb8; have HN8 := qh (HAPP.o _ _ hown8 hgr8 hob8 hb8); clear hown8 hgr8 hob8 hb8))
   exact ⟨⟨k + 1, by go_num, om, HN8⟩, by simp [intOf]; omega⟩
  ·obtain rfl : k = ps.length := om
   have HV9 : Hid (SlR wr 1 encS u4 (wsA s.t x)) := qh (by
    have h := SlR.of_owns vU HU.o.own; rw [xK, ← HWS.o] at h; exact h)
   obtain ⟨p9, c9, rfl, -, -, -⟩ := HV9.o; have HSP := qh HU.o.S; have HBP := qh HU.o.B; have HIP := qh (HU.o.I.imp (r := fun _ => True) fun _ _ => trivial); go_wp2_with fail
   refine zT (HJ.o _ _ HV9.o) fun w9 hb9 => ?_; have HB9 := qh (HBP.o.trans (hb9.mono HBP.o.size)); have HS9 := qh (HSP.o.next hb9); have HI9 := qh (HIP.o.below hb9 zn); clear hb9; go_wp2_with fail
   refine (HON.o _ (HT.o.below HB9.o)).mono ?_; rintro e w10 ⟨s', rfl, hst, hp16, hi', hb10⟩; have HB10 := qh (HB9.o.trans (hb10.mono HB9.o.size)); have HS10 := qh (HS9.o.next hb10); have HI10 := qh (HI9.o.below hb10 zn); have HI11 : Hid (xX (fun _ => True) w10 s') := qh (hi'.imp fun _ _ => trivial); have HST := qh hst; have HP16 := qh hp16
   have HF12 : Hid (∀ w11 w12, w11 = w10.alloc (.cells (zY (sv Sc.z)) 37) -> w12 = w11.setRow w10.heap.size (zY s') -> Blk w12 w10.heap.size 37 (zY s') /\ StAt w12 w.heap.size s /\ xX (fun _ => True) w12 s /\ xX (fun _ => True) w12 s' /\ zW w w12) := qh fun w11 w12 h1 h2 => by
    subst h1; rw [World.setRow_alloc_new] at h2; subst h2; exact ⟨Blk.new _ _ _, HS10.o.alloc _, HI10.o.below (yD _ _) zn, HI11.o.below (yD _ _) zn, HB10.o.alloc HB10.o.size _⟩
   clear hst hp16 hi' hb10
   cases o with
   |none =>
    have HL : Hid (ln = []) := qh (by rw [HLA.o, zH zi])
    go_wp2_with (first
     | (refine zQ rfl 37 rf _ bJ ?_; intro w11 hw11; have HE11 := qh hw11; have HX11 : Hid (Blk w11 w10.heap.size 37 (zY (sv Sc.z))) := (by rw [hw11]; exact qh (Blk.new _ _ _)); clear hw11)
     | (refine zJ rfl 37 (.tmp 8) (.tmp 63) rf w10.heap.size (zY s') rf rf _ _ HX11.o (by rw [zO]; exact uQ) (by rw [zO, zO]) HI11.o.one ?_; intro w12 hw12; have H12 := qh (HF12.o w11 w12 HE11.o hw12); clear hw12))
    go_ret
    exact ⟨by rw [HL.o]; rfl, H12.o.2.2.2.2⟩
   |some y =>
    have HYS : Hid (s'.t = y) := qh HST.o
    have HOK : Hid (∀ W, StAt W w.heap.size s -> xX (fun _ => True) W s -> xX (fun _ => True) W s' -> zCB 35 #[.agg (zY s), .agg (zY s')] W (.bool (decide (s.t = s'.t)))) := qh fun W h1 h2 h3 => by
     have hb := HSB.o; exact scr_same s s' W ⟨h2, h1.p16, by have := hb.hop.n1; omega, by have := hb.hop.n2; omega, by have := hb.wl; omega, by have := hb.bl; omega⟩ (okOne (by rw [HOE.o, HYS.o]) HJ0.o HP16.o h3)
    by_cases hss : s.t = s'.t
    ·have HL : Hid (ln = Hp.join (wsA s.t x)) := qh (by rw [HLA.o, zN (by rw [hss, HYS.o])])
     rw [zV hss] at HOK; clear hss
     go_wp2_with (first
     | (refine zQ rfl 37 rf _ bJ ?_; intro w11 hw11; have HE11 := qh hw11; have HX11 : Hid (Blk w11 w10.heap.size 37 (zY (sv Sc.z))) := (by rw [hw11]; exact qh (Blk.new _ _ _)); clear hw11)
     | (refine zJ rfl 37 (.tmp 8) (.tmp 63) rf w10.heap.size (zY s') rf rf _ _ HX11.o (by rw [zO]; exact uQ) (by rw [zO, zO]) HI11.o.one ?_; intro w12 hw12; have H12 := qh (HF12.o w11 w12 HE11.o hw12); clear hw12)
     | (refine yI rf 37 (.tmp 1) rf w.heap.size rf _ (zY s) (0, 0) _ H12.o.2.1.b underlying37 rfl (by rw [zO]; exact uQ) ?_)
     | (refine yI rf 37 (.tmp 8) rf w10.heap.size rf _ (zY s') (0, 0) _ H12.o.1 underlying37 rfl (by rw [zO]; exact uQ) ?_))
     refine zT (HOK.o _ H12.o.2.1 H12.o.2.2.1 H12.o.2.2.2.1) fun w13 hb13 => ?_; have HB13 := qh (H12.o.2.2.2.2.trans (hb13.mono H12.o.2.2.2.2.size)); clear hb13
     go_wp2
     go_ret
     exact ⟨by rw [HL.o]; rfl, HB13.o⟩
    ·have HL : Hid (ln = []) := qh (by rw [HLA.o, zH (fun h => hss (by cases h; exact HYS.o.symm))])
     rw [zM hss] at HOK; clear hss
     go_wp2_with (first
     | (refine zQ rfl 37 rf _ bJ ?_; intro w11 hw11; have HE11 := qh hw11; have HX11 : Hid (Blk w11 w10.heap.size 37 (zY (sv Sc.z))) := (by rw [hw11]; exact qh (Blk.new _ _ _)); clear hw11)
     | (refine zJ rfl 37 (.tmp 8) (.tmp 63) rf w10.heap.size (zY s') rf rf _ _ HX11.o (by rw [zO]; exact uQ) (by rw [zO, zO]) HI11.o.one ?_; intro w12 hw12; have H12 := qh (HF12.o w11 w12 HE11.o hw12); clear hw12)
     | (refine yI rf 37 (.tmp 1) rf w.heap.size rf _ (zY s) (0, 0) _ H12.o.2.1.b underlying37 rfl (by rw [zO]; exact uQ) ?_)
     | (refine yI rf 37 (.tmp 8) rf w10.heap.size rf _ (zY s') (0, 0) _ H12.o.1 underlying37 rfl (by rw [zO]; exact uQ) ?_))
     refine zT (HOK.o _ H12.o.2.1 H12.o.2.2.1 H12.o.2.2.2.1) fun w13 hb13 => ?_; have HB13 := qh (H12.o.2.2.2.2.trans (hb13.mono H12.o.2.2.2.2.size)); clear hb13
     go_wp2
     go_ret
     exact ⟨by rw [HL.o]; rfl, HB13.o⟩
theorem line_none (s : StV) (w : World) (p16 : s.t.pf.addr.length = 16) (hi : s.t.is = false) (hk : s.t.kind < 0 ∨ 15 < s.t.kind) :
  zCB 14 #[.agg (zY s)] w (.string (str (tH s.t))) := by
 have hw : Sc.wordOf s.t = none := by unfold Sc.wordOf; rw [zH (by rw [hi]; decide), zH om]
 have HL : Hid (tH s.t = []) := qh (by have h0 : sG s.t = [] := by { unfold sG; rw [hw] }; unfold tH; rw [h0]; split <;> rfl); have HS0 : Hid (∀ w1, w1 = w.alloc (.cells (zY s) 37) -> StAt w1 w.heap.size s) := qh fun w1 h => by subst h; exact ⟨Blk.new _ _ _, p16⟩
 have HI0 : Hid (s.t.is = false) := qh hi; clear hi p16 hw
 rcases hk with hk | hk
 all_goals
  go_enter func14, ntmps14
  go_wp2_with (refine yS rfl _ (.tmp 0) rf (zY s) rf ?_; intro w1 E1; have HS1 := qh (HS0.o w1 E1); have HB1 : Hid (zW w w1) := (by rw [E1]; exact qh (yD w _)); clear E1; have hz1 := HS1.o.lt; have cs0 := HS1.o.c0; have cs34 := HS1.o.c34; have cs1 := HS1.o.c1; rw [HI0.o] at cs0)
  go_ret
  exact ⟨by rw [HL.o]; rfl, HB1.o⟩
theorem names_le {k : Nat} {x : Hp.Wd} (h : Sc.names[k]? = some x) : x.length <= 1000 := by
 have hm := uA h; have : ∀ y ∈ Sc.names, y.length <= 1000 := zd; exact this x hm
theorem scr_Line (s : StV) (w : World) (ht : ST w) (hin : xX (fun _ => True) w s) (p16 : s.t.pf.addr.length = 16) (hsb : SB s.t) (hj : (sG s.t).length <= 65536) :
  zCB 14 #[.agg (zY s)] w (.string (str (tH s.t))) := by
 cases hi : s.t.is with
 |true =>
  obtain ⟨x, hx, hxl⟩ : ∃ x, Sc.wordOf s.t = some x /\ x.length <= 1000 := by
   unfold Sc.wordOf; rw [zN hi]
   split
   ·exact ⟨_, rfl, zd⟩
   ·exact ⟨_, rfl, zd⟩
  exact line_packet s w ht hin p16 hsb hi x hx (by unfold sG at hj; rw [hx] at hj; exact hj) hxl
 |false =>
  by_cases hk : 0 <= s.t.kind /\ s.t.kind <= 15
  ·have hk16 : s.t.kind.toNat < 16 := om
   have hkd : s.t.kind = (s.t.kind.toNat : Int) := om; obtain ⟨x, hx⟩ : ∃ x, Sc.names[s.t.kind.toNat]? = some x := ⟨_, zA (by rw [zAp]; exact hk16)⟩; have hwd : Sc.wordOf s.t = some x := by unfold Sc.wordOf; rw [zH (by rw [hi]; decide), zN hk]; exact hx
   exact line_op s w ht hin p16 hsb hi _ hk16 hkd x hx (by unfold sG at hj; rw [hwd] at hj; exact hj) (names_le hx)
  ·exact line_none s w p16 hi om
end Go.Proofs.YtdbgeobolongmaaGreatDoor
namespace Go.Proofs.YtdbgeobolongmaaGreatDoor
open Go.RowKit Go.Shelf Go.Proofs Go.OctetPlain Go.PrefixPlain
theorem wsA_eq {t : Sc.Stp} {x : Hp.Wd} (h : Sc.Part.H ∈ Sc.partsOf x -> Hp.checkR t.hop = 0) : wsA t x = Sc.textW t x := by
 unfold wsA Sc.textW
 congr 1
 have : ∀ ps : List Sc.Part, (Sc.Part.H ∈ ps -> Hp.checkR t.hop = 0) -> ps.flatMap (fun p => shwA p t) = ps.flatMap (fun p => Sc.shw p t) := fun ps => by
  induction ps with
  | nil => intro _; rfl
  |cons p r ih =>
   intro hp; rw [vT, vT, ih fun hm => hp (yP _ hm)]
   congr 1
   by_cases e : p = .H
   ·subst e
    have hv := hp yH
    show Hp.spl (Hp.join (fG t.hop)) = Hp.spl (Hp.showR t.hop)
    unfold Hp.showR; rw [showWA_valid ((Hp.check_iff _).1 hv)]
   ·cases p <;> first | rfl | exact absurd rfl e
 exact this _ h
theorem parts_H : ∀ k, k < 16 -> Sc.Part.H ∈ Sc.partsK.getD k [] -> k = 8 := zd
theorem zDc {t : Sc.Stp} {x : Hp.Wd} (hw : Sc.wordOf t = some x) (hH : Sc.Part.H ∈ Sc.partsOf x) : t.is = false /\ t.kind = 8 := by
 unfold Sc.wordOf at hw
 cases hi : t.is with
 |true =>
  rw [zN hi] at hw
  exfalso
  split at hw
  ·cases hw; exact absurd hH zd
  ·cases hw; exact absurd hH zd
 |false =>
  rw [zH (by rw [hi]; decide)] at hw
  split at hw
  ·rename_i hk
   have hlt : t.kind.toNat < 16 := om; have hx : Sc.names.getD t.kind.toNat [] = x := by rw [vP, hw]; rfl
   rw [← hx, Sc.partsOf_name hlt] at hH; have := parts_H _ hlt hH; exact ⟨rfl, om⟩
  ·cases hw
theorem zAb (t : Sc.Stp) : tH t = Sc.lineR t := by
 cases hw : Sc.wordOf t with
 |none =>
  have h1 : sG t = [] := by unfold sG; rw [hw]
  have h2 : Sc.textR t = [] := by unfold Sc.textR; rw [hw]
  unfold tH Sc.lineR; rw [h1, h2]
 |some x =>
  have h1 : sG t = Hp.join (wsA t x) := by unfold sG; rw [hw]
  have h2 : Sc.textR t = Hp.join (Sc.textW t x) := by unfold Sc.textR; rw [hw]
  by_cases hH : Sc.Part.H ∈ Sc.partsOf x -> Hp.checkR t.hop = 0
  ·unfold tH Sc.lineR
   rw [h1, h2, wsA_eq hH]
  ·have hm : Sc.Part.H ∈ Sc.partsOf x := jO fun h => hH fun q => absurd q h
   have hc : Hp.checkR t.hop ≠ 0 := fun h => hH fun _ => h; obtain ⟨hi, hk⟩ := zDc hw hm; unfold tH Sc.lineR; rw [zH (fun h => hc (Sc.one_hop h hi hk)), zH (fun h => hc (Sc.one_hop h hi hk))]
open Go.Proofs.Tryz
def tZ (t : Sc.Stp) : Bool := decide (t.ways.length <= 20 /\ t.text.length <= 100 /\ t.hop.labels.length <= 20 /\ t.hop.repair.length <= 20 /\ t.bytes.length <= 300)
theorem zEz (s : StV) (w : World) (p16 : s.t.pf.addr.length = 16) (hin : xX (fun _ => True) w s) :
  zCB 9 #[.agg (zY s)] w (.bool (tZ s.t)) := by
 have HS0 : Hid (∀ w1, w1 = w.alloc (.cells (zY s) 37) -> StAt w1 w.heap.size s /\ zW w w1) := qh fun w1 h => by subst h; exact ⟨⟨Blk.new _ _ _, p16⟩, yD w _⟩
 obtain ⟨t, vl, vr, vw, vb⟩ := s; obtain ⟨⟨p1, c1, e1, -⟩, ⟨p2, c2, e2, -⟩, ⟨p3, c3, e3, -⟩, ⟨p4, c4, e4, -⟩⟩ := hin; simp only at e1 e2 e3 e4; subst e1 e2 e3 e4; have htx : (str t.text).size = t.text.length := zZ _; have HSB : Hid (tZ t = decide (t.ways.length <= 20 /\ t.text.length <= 100 /\ t.hop.labels.length <= 20 /\ t.hop.repair.length <= 20 /\ t.bytes.length <= 300)) := qh rfl; clear p16; simp only at HS0 ⊢; generalize tZ t = sb at *
 by_cases h1 : t.ways.length <= 20
 rotate_left
 ·have HF : Hid (sb = false) := qh (by rw [HSB.o]; exact zM fun h => h1 h.1)
  go_enter func9, ntmps9
  go_wp2_with (refine yS rfl _ (.tmp 0) rf (zY ⟨t, .slice p1 t.hop.labels.length c1, .slice p2 t.hop.repair.length c2, .slice p3 t.ways.length c3, .slice p4 t.bytes.length c4⟩) rf ?_; intro w1 E1; have HS1 := qh (HS0.o w1 E1); clear E1; have a1 := HS1.o.1.c31; have a2 := HS1.o.1.c32; have a3 := HS1.o.1.c35; have a4 := HS1.o.1.hop 1 _ rfl; have a5 := HS1.o.1.hop 4 _ rfl; simp only [Nat.reduceAdd] at a1 a2 a3 a4 a5)
  go_ret
  exact ⟨by rw [HF.o]; rfl, HS1.o.2⟩
 by_cases h2 : t.text.length <= 100
 rotate_left
 ·have HF : Hid (sb = false) := qh (by rw [HSB.o]; exact zM fun h => h2 h.2.1)
  go_enter func9, ntmps9
  go_wp2_with (refine yS rfl _ (.tmp 0) rf (zY ⟨t, .slice p1 t.hop.labels.length c1, .slice p2 t.hop.repair.length c2, .slice p3 t.ways.length c3, .slice p4 t.bytes.length c4⟩) rf ?_; intro w1 E1; have HS1 := qh (HS0.o w1 E1); clear E1; have a1 := HS1.o.1.c31; have a2 := HS1.o.1.c32; have a3 := HS1.o.1.c35; have a4 := HS1.o.1.hop 1 _ rfl; have a5 := HS1.o.1.hop 4 _ rfl; simp only [Nat.reduceAdd] at a1 a2 a3 a4 a5)
  go_ret
  exact ⟨by rw [HF.o]; rfl, HS1.o.2⟩
 by_cases h3 : t.hop.labels.length <= 20
 rotate_left
 ·have HF : Hid (sb = false) := qh (by rw [HSB.o]; exact zM fun h => h3 h.2.2.1)
  go_enter func9, ntmps9
  go_wp2_with (refine yS rfl _ (.tmp 0) rf (zY ⟨t, .slice p1 t.hop.labels.length c1, .slice p2 t.hop.repair.length c2, .slice p3 t.ways.length c3, .slice p4 t.bytes.length c4⟩) rf ?_; intro w1 E1; have HS1 := qh (HS0.o w1 E1); clear E1; have a1 := HS1.o.1.c31; have a2 := HS1.o.1.c32; have a3 := HS1.o.1.c35; have a4 := HS1.o.1.hop 1 _ rfl; have a5 := HS1.o.1.hop 4 _ rfl; simp only [Nat.reduceAdd] at a1 a2 a3 a4 a5)
  go_ret
  exact ⟨by rw [HF.o]; rfl, HS1.o.2⟩
 by_cases h4 : t.hop.repair.length <= 20
 rotate_left
 ·have HF : Hid (sb = false) := qh (by rw [HSB.o]; exact zM fun h => h4 h.2.2.2.1)
  go_enter func9, ntmps9
  go_wp2_with (refine yS rfl _ (.tmp 0) rf (zY ⟨t, .slice p1 t.hop.labels.length c1, .slice p2 t.hop.repair.length c2, .slice p3 t.ways.length c3, .slice p4 t.bytes.length c4⟩) rf ?_; intro w1 E1; have HS1 := qh (HS0.o w1 E1); clear E1; have a1 := HS1.o.1.c31; have a2 := HS1.o.1.c32; have a3 := HS1.o.1.c35; have a4 := HS1.o.1.hop 1 _ rfl; have a5 := HS1.o.1.hop 4 _ rfl; simp only [Nat.reduceAdd] at a1 a2 a3 a4 a5)
  go_ret
  exact ⟨by rw [HF.o]; rfl, HS1.o.2⟩
 by_cases h5 : t.bytes.length <= 300
 rotate_left
 ·have HF : Hid (sb = false) := qh (by rw [HSB.o]; exact zM fun h => h5 h.2.2.2.2)
  have HD : Hid (decide ((t.bytes.length : Int) <= 300) = sb) := qh (by rw [HF.o]; exact zM om)
  go_enter func9, ntmps9
  go_wp2_with (refine yS rfl _ (.tmp 0) rf (zY ⟨t, .slice p1 t.hop.labels.length c1, .slice p2 t.hop.repair.length c2, .slice p3 t.ways.length c3, .slice p4 t.bytes.length c4⟩) rf ?_; intro w1 E1; have HS1 := qh (HS0.o w1 E1); clear E1; have a1 := HS1.o.1.c31; have a2 := HS1.o.1.c32; have a3 := HS1.o.1.c35; have a4 := HS1.o.1.hop 1 _ rfl; have a5 := HS1.o.1.hop 4 _ rfl; simp only [Nat.reduceAdd] at a1 a2 a3 a4 a5)
  go_ret
  exact ⟨by rw [← HD.o]; rfl, HS1.o.2⟩
 have HF : Hid (sb = true) := qh (by rw [HSB.o]; exact zV ⟨h1, h2, h3, h4, h5⟩); have HD : Hid (decide ((t.bytes.length : Int) <= 300) = sb) := qh (by rw [HF.o]; exact zV om)
 go_enter func9, ntmps9
 go_wp2_with (refine yS rfl _ (.tmp 0) rf (zY ⟨t, .slice p1 t.hop.labels.length c1, .slice p2 t.hop.repair.length c2, .slice p3 t.ways.length c3, .slice p4 t.bytes.length c4⟩) rf ?_; intro w1 E1; have HS1 := qh (HS0.o w1 E1); clear E1; have a1 := HS1.o.1.c31; have a2 := HS1.o.1.c32; have a3 := HS1.o.1.c35; have a4 := HS1.o.1.hop 1 _ rfl; have a5 := HS1.o.1.hop 4 _ rfl; simp only [Nat.reduceAdd] at a1 a2 a3 a4 a5)
 go_ret
 exact ⟨by rw [← HD.o]; rfl, HS1.o.2⟩
end Go.Proofs.YtdbgeobolongmaaGreatDoor
namespace Go.Proofs.YtdbgeobolongmaaGreatDoor
open Go.RowKit Go.Shelf Go.Proofs Go.OctetPlain Go.PrefixPlain
theorem showD_le {a : List UInt8} (h : a.length = 4) : (qP a).length <= 87 := by
 match hx : a, h with
 |[a, b, c, d], _ =>
  have := Sc.dec_le a; have := Sc.dec_le b; have := Sc.dec_le c; have := Sc.dec_le d; simp only [qP, dotJ, yM, xH, zG, zI]; omega
theorem showP_le {p : Pf} (h : p.addr.length = 16) (hl : I64 p.len) : (fC p).length <= 120 := by
 have h1 : (aW p).length <= 87 := by
  unfold aW
  split
  ·exact yK (ColonPlain.show_le h).2 zd
  ·exact showD_le (by rw [yV, h]; rfl)
 have h2 := uW hl; unfold fC; rw [zG, zI]; omega
structure Sml (t : Sc.Stp) : Prop where
 sb : SB t
 ws : t.ways.length <= 20
 tx : t.text.length <= 100
 h1 : t.hop.labels.length <= 20
 h2 : t.hop.repair.length <= 20
 by_ : t.bytes.length <= 300
 p16 : t.pf.addr.length = 16
def flw (l : List Hp.Wd) : List UInt8 := l.flatMap fun v => (32 : UInt8) :: v
theorem flw_app (a b : List Hp.Wd) : flw (a ++ b) = flw a ++ flw b := by unfold flw; rw [uI]
theorem flw_le {k : Nat} : ∀ {l : List Hp.Wd}, (∀ w ∈ l, w.length <= k) -> (flw l).length <= l.length * (k + 1)
 | [], _ => by simp [flw]
 |w :: l, h => by
  have h1 := h w yH; have h2 := flw_le (l := l) fun v hv => h v (yP _ hv); have e : flw (w :: l) = (32 :: w) ++ flw l := rfl; rw [e, zG, zI, zI, Nat.succ_mul]; omega
theorem showWA_few {h : Hp.Hop} (h1 : h.labels.length <= 20) (h2 : h.repair.length <= 20) : (fG h).length <= 46 := by
 unfold fG; simp only [zG, yX, zI, xI]
 split <;> split <;> split <;> simp <;> omega
theorem shwA_le {t : Sc.Stp} (h : Sml t) (p : Sc.Part) : (flw (shwA p t)).length <= 1300 := by
 have one : ∀ {v : Hp.Wd}, v.length <= 1200 -> (flw [v]).length <= 1300 := fun {v} hv => by
  have := flw_le (k := 1200) (l := [v]) (fun w hw => by rw [xS.1 hw]; exact hv); simp only [zI, xI] at this; omega
 cases p with
 |H =>
  have e : flw (shwA .H t) = 32 :: Hp.join (fG t.hop) := Sc.flat_spl _; rw [e, zI]; have v := zBt h.sb.hop; have h3 := zDe _ v.2; have h4 := showWA_few h.h1 h.h2; omega
 | A => exact one (by have := uW h.sb.a; omega)
 | N => exact one (by have := uW h.sb.n; omega)
 | O => exact one (by have := uW h.sb.o; omega)
 | Q => exact one (by have := uW h.sb.q; omega)
 | S => exact one (by
   have := uW h.sb.s1; have := uW h.sb.s2; simp only [Sc.dash, zG, zI]; omega)
 | P => exact one (by have := showP_le h.p16 h.sb.pl; omega)
 | T => exact one (by have := h.tx; omega)
 | B => exact one (by
   split
   ·simp
   ·have := h.by_
    rw [tL]; omega)
 |W =>
  have h0 := flw_le (k := 61) (l := shwA .W t) (fun w hw => by
   obtain ⟨q, hq, rfl⟩ := vB.1 hw; have h1 := uW (h.sb.wi q hq).1; have h2 := uW (h.sb.wi q hq).2; simp only [Sc.star, zG, zI]; omega)
  have h1 : (shwA .W t).length <= 20 := by show (t.ways.map Sc.star).length <= 20; rw [yX]; exact h.ws
  omega
theorem flat_le {t : Sc.Stp} (h : Sml t) : ∀ (ps : List Sc.Part), (flw (ps.flatMap fun p => shwA p t)).length <= ps.length * 1300
 | [] => by simp [flw]
 |p :: ps => by
  have h1 := shwA_le h p; have h2 := flat_le h ps; rw [vT, flw_app, zG, zI, Nat.succ_mul]; omega
theorem names_leK : ∀ w ∈ Sc.names, w.length <= 7 := zd
theorem word_le {t : Sc.Stp} {x : Hp.Wd} (h : Sc.wordOf t = some x) : x.length <= 7 := by
 unfold Sc.wordOf at h
 split at h
 ·split at h
  ·cases h; decide
  ·cases h; decide
 ·split at h
  ·exact names_leK x (uA h)
  ·cases h
theorem sU {t : Sc.Stp} (h : Sml t) : (sG t).length <= 4000 := by
 unfold sG
 cases hw : Sc.wordOf t with
 | none => exact yQ _
 |some x =>
  have h7 := word_le hw; have h3 := lZ x; have h2 := flat_le h (Sc.partsOf x); have h4 : (Sc.partsOf x).length * 1300 <= 3 * 1300 := Nat.mul_le_mul_right _ h3
  show (Hp.join (x :: (Sc.partsOf x).flatMap fun p => shwA p t)).length <= 4000
  rw [Sc.join_cons, zG]; unfold flw at h2; omega
theorem zAg {t : Sc.Stp} (h : Sml t) : (Sc.textD t).length <= 4000 := by
 by_cases hc : t.is = false -> t.kind = 8 -> Hp.checkR t.hop = 0
 ·rw [Sc.textD_eq hc]
  have : Sc.textR t = sG t := by
   unfold Sc.textR sG
   cases hw : Sc.wordOf t with
   | none => rfl
   |some x =>
    simp only; rw [wsA_eq fun hH => hc (zDc hw hH).1 (zDc hw hH).2]
  rw [this]; exact sU h
 ·have hb : t.is = false /\ t.kind = 8 /\ Hp.checkR t.hop ≠ 0 := ⟨jO fun k => hc fun a => absurd a k, jO fun k => hc fun _ a => absurd a k, fun k => hc fun _ _ => k⟩
  unfold Sc.textD; rw [zH (by rw [hb.1]; decide), zH (by rw [hb.2.1]; decide), zN ⟨by rw [hb.2.1]; decide, hb.2.2⟩]; exact yQ _
theorem hd_text (x : Sc.Scr) : ((((((((((⟨#[114, 111, 111, 109, 115, 32]⟩ : ByteArray) ++ str (Lib.itoa x.r1)) ++ ⟨#[32]⟩) ++ str (Lib.itoa x.r2)) ++ ⟨#[32]⟩) ++ str (Lib.itoa x.r3)) ++ ⟨#[10, 115, 101, 108, 102, 32]⟩) ++ str (qP x.four)) ++ ⟨#[32]⟩) ++ str (ColonPlain.show_ x.six)) ++ ⟨#[10]⟩ = str (Sc.body [Sc.roomsL x, Sc.selfL x]) := by
 have e1 : (⟨#[114, 111, 111, 109, 115, 32]⟩ : ByteArray) = str [114, 111, 111, 109, 115, 32] := rfl; have e2 : (⟨#[32]⟩ : ByteArray) = str [32] := rfl; have e3 : (⟨#[10, 115, 101, 108, 102, 32]⟩ : ByteArray) = str [10, 115, 101, 108, 102, 32] := rfl; have e4 : (⟨#[10]⟩ : ByteArray) = str [10] := rfl; rw [e1, e2, e3, e4]; simp only [xJ]
 congr 1
 simp [Sc.body, Sc.roomsL, Sc.selfL, Hp.join, Sc.wRooms, Sc.wSelf]
def wlen : List Hp.Wd -> Nat
 | [] => 0
 | w :: l => w.length + 1 + wlen l
theorem wlen_spl : ∀ s : List UInt8, wlen (Hp.spl s) = s.length + 1
 | [] => rfl
 |c :: r => by
  have ih := wlen_spl r; unfold Hp.spl
  split
  ·simp only [wlen, xI, zI, ih]; omega
  ·cases hs : Hp.spl r with
   | nil => exact absurd hs (Hp.spl_ne r)
   |cons w ws =>
    rw [hs] at ih; simp only [wlen, mY, bZ, zI] at ih ⊢; omega
structure SBx (A : Nat) (t : Sc.Stp) : Prop where
 a : I64 t.a
 n : I64 t.n
 o : I64 t.owner
 s1 : I64 t.s1
 s2 : I64 t.s2
 q : I64 t.port
 pl : I64 t.pf.len
 hop : HB t.hop
 wi : ∀ p ∈ t.ways, I64 p.1 /\ I64 p.2
 tl : t.text.length <= A
 bl : t.bytes.length <= A
theorem zFo {n : Int} (h : 0 <= n /\ n <= 1073741824) : I64 n := ⟨om, om⟩
theorem itoa_pos1 {n : Int} (h : 0 <= n) : 1 <= (Lib.itoa n).length := by
 cases hh : Lib.itoa n with
 |nil =>
  exfalso
  unfold Lib.itoa at hh; rw [zH om] at hh; exact aM _ hh
 | cons a l => simp
theorem waysP_wlen : ∀ {l : List Hp.Wd} {r : List (Int × Int)}, Sc.waysP l = some r -> 4 * r.length <= wlen l /\ ∀ p ∈ r, I64 p.1 /\ I64 p.2
 | [], r, h => by injection h with h; subst h; exact ⟨zi, fun p hp => by cases hp⟩
 |w :: l, r, h => by
  unfold Sc.waysP at h
  cases h1 : Sc.two 42 w with
  | none => rw [h1] at h; simp at h
  |some p =>
   cases h2 : Sc.waysP l with
   | none => rw [h1, h2] at h; simp at h
   |some q =>
    rw [h1, h2] at h; injection h with h
    subst h; obtain ⟨e1, e2⟩ := waysP_wlen h2; obtain ⟨ew, b1, b2⟩ := Sc.two_some h1; have k1 := itoa_pos1 b1.1; have k2 := itoa_pos1 b2.1; have kw : 3 <= w.length := by rw [ew, zG, zI]; omega
    refine ⟨by simp only [wlen, zI]; omega, fun v hv => ?_⟩
    rcases yR.1 hv with rfl | hv
    ·exact ⟨zFo b1, zFo b2⟩
    ·exact e2 v hv
theorem parseP_I {w : Hp.Wd} {p : Pf} (h : vR w = some p) : I64 p.len := by
 unfold vR at h
 split at h
 ·cases h
 ·split at h
  ·cases h
  ·rename_i n hn
   split at h
   ·injection h with h
    subst h; obtain ⟨h0, -, h2, -⟩ := uD.1 hn; exact ⟨by show -9223372036854775808 <= n; omega, by show n <= 9223372036854775807; omega⟩
   ·cases h
theorem read_SBx {A : Nat} {p : Sc.Part} {x y : Sc.Stp} {l r : List Hp.Wd} (h : Sc.read p x l = some (y, r)) (f : SBx A x) (hl : wlen l <= A) :
  SBx A y /\ wlen r <= wlen l /\ 4 * y.ways.length + wlen r <= 4 * x.ways.length + wlen l := by
 have num : ∀ {w : Hp.Wd} {l : List Hp.Wd} {g : Int -> Sc.Stp}, (match Sc.num30 w with | some n => some (g n, l) | none => none) = some (y, r) -> ∃ n, y = g n /\ r = l /\ I64 n := by
  intro w l g h
  cases hn : Sc.num30 w with
  | none => rw [hn] at h; cases h
  |some n =>
   rw [hn] at h; injection h with h
   injection h with h1 h2
   exact ⟨n, h1.symm, h2.symm, zFo (Sc.num30_some hn).2⟩
 cases p with
 |A => cases l with
  | nil => cases h
  | cons w l => obtain ⟨n, rfl, rfl, hn⟩ := num h; exact ⟨⟨hn, f.n, f.o, f.s1, f.s2, f.q, f.pl, f.hop, f.wi, f.tl, f.bl⟩, by simp only [wlen]; omega, by simp only [wlen]; omega⟩
 |N => cases l with
  | nil => cases h
  | cons w l => obtain ⟨n, rfl, rfl, hn⟩ := num h; exact ⟨⟨f.a, hn, f.o, f.s1, f.s2, f.q, f.pl, f.hop, f.wi, f.tl, f.bl⟩, by simp only [wlen]; omega, by simp only [wlen]; omega⟩
 |O => cases l with
  | nil => cases h
  | cons w l => obtain ⟨n, rfl, rfl, hn⟩ := num h; exact ⟨⟨f.a, f.n, hn, f.s1, f.s2, f.q, f.pl, f.hop, f.wi, f.tl, f.bl⟩, by simp only [wlen]; omega, by simp only [wlen]; omega⟩
 |Q => cases l with
  | nil => cases h
  | cons w l => obtain ⟨n, rfl, rfl, hn⟩ := num h; exact ⟨⟨f.a, f.n, f.o, f.s1, f.s2, hn, f.pl, f.hop, f.wi, f.tl, f.bl⟩, by simp only [wlen]; omega, by simp only [wlen]; omega⟩
 |S => cases l with
  | nil => cases h
  |cons w l =>
   simp only [Sc.read] at h
   split at h
   ·rename_i q hq
    injection h with h
    injection h with h1 h2
    subst h1 h2; obtain ⟨-, b1, b2⟩ := Sc.two_some hq; exact ⟨⟨f.a, f.n, f.o, zFo b1, zFo b2, f.q, f.pl, f.hop, f.wi, f.tl, f.bl⟩, by simp only [wlen]; omega, by simp only [wlen]; omega⟩
   ·cases h
 |W => cases l with
  | nil => cases h
  |cons w l =>
   simp only [Sc.read] at h
   split at h
   ·rename_i q hq
    injection h with h
    injection h with h1 h2
    subst h1 h2; obtain ⟨e1, e2⟩ := waysP_wlen hq; refine ⟨⟨f.a, f.n, f.o, f.s1, f.s2, f.q, f.pl, f.hop, fun p hp => ?_, f.tl, f.bl⟩, by simp [wlen], ?_⟩
    ·rcases xR.1 hp with hp | hp
     ·exact f.wi p hp
     ·exact e2 p hp
    ·simp only [zG]
     have : wlen ([] : List Hp.Wd) = 0 := rfl; omega
   ·cases h
 |P => cases l with
  | nil => cases h
  |cons w l =>
   simp only [Sc.read] at h
   cases hn : vR w with
   | none => rw [hn] at h; cases h
   |some q =>
    rw [hn] at h; simp only at h
    split at h
    ·injection h with h
     injection h with h1 h2
     subst h1 h2; exact ⟨⟨f.a, f.n, f.o, f.s1, f.s2, f.q, parseP_I hn, f.hop, f.wi, f.tl, f.bl⟩, by simp only [wlen]; omega, by simp only [wlen]; omega⟩
    ·cases h
 |H =>
  have h : (match Hp.parseR (Hp.join l) with | some h => some ({ x with hop := h }, []) | none => none) = some (y, r) := by cases l <;> exact h
  cases hn : Hp.parseR (Hp.join l) with
  | none => rw [hn] at h; cases h
  |some q =>
   rw [hn] at h; injection h with h
   injection h with h1 h2
   subst h1 h2; exact ⟨⟨f.a, f.n, f.o, f.s1, f.s2, f.q, f.pl, HB.of_valid ((Hp.check_iff _).1 ((Hp.parseR_iff _ _).1 hn).1), f.wi, f.tl, f.bl⟩, by simp [wlen], by have : wlen ([] : List Hp.Wd) = 0 := rfl; show 4 * x.ways.length + _ <= _; omega⟩
 |T => cases l with
  | nil => cases h
  |cons w l =>
   simp only [Sc.read] at h
   split at h
   ·injection h with h
    injection h with h1 h2
    subst h1 h2; simp only [wlen] at hl; exact ⟨⟨f.a, f.n, f.o, f.s1, f.s2, f.q, f.pl, f.hop, f.wi, by show w.length <= A; omega, f.bl⟩, by simp only [wlen]; omega, by simp only [wlen]; omega⟩
   ·cases h
 |B => cases l with
  | nil => cases h
  |cons w l =>
   simp only [Sc.read] at h
   split at h
   ·cases h
   ·split at h
    ·injection h with h
     injection h with h1 h2
     subst h1 h2; exact ⟨f, by simp only [wlen]; omega, by simp only [wlen]; omega⟩
    ·split at h
     ·rename_i b hb
      split at h
      ·injection h with h
       injection h with h1 h2
       subst h1 h2; have k := pV w; rw [hb] at k; simp only [vI] at k; simp only [wlen] at hl; exact ⟨⟨f.a, f.n, f.o, f.s1, f.s2, f.q, f.pl, f.hop, f.wi, f.tl, by show b.length <= A; omega⟩, by simp only [wlen]; omega, by simp only [wlen]; omega⟩
      ·cases h
     ·cases h
theorem reads_SBx {A : Nat} : ∀ {ps : List Sc.Part} {x y : Sc.Stp} {l r : List Hp.Wd}, Sc.reads ps x l = some (y, r) -> SBx A x -> wlen l <= A -> SBx A y /\ 4 * y.ways.length + wlen r <= 4 * x.ways.length + wlen l
 | [], x, y, l, r, h, f, hl => by injection h with h; injection h with h1 h2; subst h1 h2; exact ⟨f, yZ _⟩
 |p :: ps, x, y, l, r, h, f, hl => by
  unfold Sc.reads at h
  split at h
  ·rename_i z q hz
   obtain ⟨h1, h2, h3⟩ := read_SBx hz f hl; obtain ⟨h4, h5⟩ := reads_SBx h h1 om; exact ⟨h4, om⟩
  ·cases h
theorem zCx : I64 0 := ⟨zd, zd⟩
theorem x0_SBx (A : Nat) (w : Hp.Wd) : SBx A (Sc.x0 w) := ⟨zCx, zCx, zCx, zCx, zCx, zCx, zCx, ⟨yQ _, yQ _, (fun n hn => by cases hn), (fun n hn => by cases hn), zCx, zCx⟩, (fun p hp => by cases hp), yQ _, yQ _⟩
theorem one_SB {s : List UInt8} {t : Sc.Stp} (h : Sc.oneR s = some t) (hs : s.length <= 4001) : SB t := by
 obtain ⟨w, l, h1, h2, h3⟩ := Sc.oneR_some h; have hw := wlen_spl s; rw [h1] at hw; simp only [wlen] at hw; obtain ⟨f, hg⟩ := reads_SBx (A := 4001) h3 (x0_SBx _ w) om; have h0 : (Sc.x0 w).ways.length = 0 := rfl; exact ⟨f.a, f.n, f.o, f.s1, f.s2, f.q, f.pl, f.hop, om, f.wi, yK f.tl zd, yK f.bl zd⟩
theorem one_textA {s : List UInt8} {t : Sc.Stp} (h : Sc.oneR s = some t) : sG t = s := by
 rw [← Sc.one_text h]; unfold sG Sc.textR
 cases hw : Sc.wordOf t with
 | none => rfl
 |some x =>
  simp only
  rw [wsA_eq fun hm => (by
   obtain ⟨hi, hk⟩ := zDc hw hm; exact Sc.one_hop h hi hk)]
theorem one_textD {s : List UInt8} {t : Sc.Stp} (h : Sc.oneR s = some t) : Sc.textD t = s := by
 rw [Sc.textD_eq fun hi hk => Sc.one_hop h hi hk]; exact Sc.one_text h
theorem body_mem : ∀ {ws : List Hp.Wd} {w : Hp.Wd}, w ∈ ws -> w.length + 1 <= (Sc.body ws).length
 |v :: ws, w, h => by
  rw [Sc.body, zG, zI]
  rcases yR.1 h with rfl | h
  ·omega
  ·have := body_mem h; omega
theorem zGb {l : List UInt8} {x : Sc.Scr} (h : Sc.parseX l = .ok x) (hl : l.length <= 4001) {t : Sc.Stp} (ht : t ∈ x.steps) : ∃ s, Sc.oneR s = some t /\ s.length <= 4001 := by
 obtain ⟨i, hw⟩ := Sc.parse_inv h; refine ⟨Sc.lineR t, i.s t ht, ?_⟩; have := body_mem (mH (f := Sc.lineR) ht); unfold Sc.wt at hw; omega
theorem parsed_fit {l : List UInt8} {x : Sc.Scr} (h : Sc.parseX l = .ok x) (hl : l.length <= 4001) {t : Sc.Stp} (ht : t ∈ x.steps) : t.hop.labels.length <= 1073741824 /\ t.hop.repair.length <= 1073741824 /\ t.ways.length <= 1073741824 := by
 obtain ⟨s, h1, h2⟩ := zGb h hl ht; have f := one_SB h1 om; exact ⟨yK f.hop.n1 zd, yK f.hop.n2 zd, yK f.wl zd⟩
structure NB (t : Sc.Stp) : Prop where
 a : I64 t.a
 n : I64 t.n
 o : I64 t.owner
 s1 : I64 t.s1
 s2 : I64 t.s2
 q : I64 t.port
 pl : I64 t.pf.len
 p1 : ∀ n ∈ t.hop.labels, I64 n
 p2 : ∀ n ∈ t.hop.repair, I64 n
 hq : I64 t.hop.port
 hb : I64 t.hop.backup
 wi : ∀ p ∈ t.ways, I64 p.1 /\ I64 p.2
theorem Sml.of {t : Sc.Stp} (h : NB t) (hs : tZ t = true) (p16 : t.pf.addr.length = 16) : Sml t := by
 obtain ⟨h1, h2, h3, h4, h5⟩ := kV hs; exact ⟨⟨h.a, h.n, h.o, h.s1, h.s2, h.q, h.pl, ⟨om, om, h.p1, h.p2, h.hq, h.hb⟩, om, h.wi, om, om⟩, h1, h2, h3, h4, h5, p16⟩
end Go.Proofs.YtdbgeobolongmaaGreatDoor
namespace Go.Proofs.YtdbgeobolongmaaGreatDoor
open Go.ChangeShapes Go.WideShapes Go.ChangeAt Go.RowKit Go.Deep Go.Joins Go.PrefixPlain Go.OctetPlain
section
variable {H : Type} {enc : TypeId × Value -> H} {W : World}
theorem flds {t : TypeId} {fs : Array Field} {n fuel : Nat} {cs : List Value} {x : DataW H × List MemPlace} (hu : Tryz.prog.underlying t = some (.struct fs)) (h : DataW.trod enc Tryz.prog W 0 (fun _ => true) true fuel t cs = some x) (hn : Tryz.prog.cellsOf t = n) :
  ∃ m, cs.length = n /\ ∀ (i : Nat) (f : Field), fs[i]? = some f -> ∀ (T : TypeId) (o k : Nat), f.type = T -> f.offset = o -> Tryz.prog.cellsOf T = k -> ∃ y, DataW.trod enc Tryz.prog W 0 (fun _ => true) true m T ((cs.drop o).take k) = some y := by
 obtain ⟨xs, m, -, -, hl, hlen, hf⟩ := DataW.trod_struct hu h; refine ⟨m, hl.trans hn, fun i f hi T o k e1 e2 e3 => ?_⟩; subst e1 e2 e3; have h1 := hf i f hi; have : i < xs.length := by rw [hlen]; exact (xB.1 hi).1
 rw [zA this] at h1; exact ⟨_, h1⟩
theorem dt {α : Type} (cs : List α) (a b c : Nat) (h : a + b = c) : cs.drop a = (cs.drop a).take b ++ cs.drop c := by
 have := (kC b (cs.drop a)).symm; rw [List.drop_drop, h] at this; exact this
theorem fF {α : Type} {cs : List α} {a b n : Nat} (h : cs.length = n) (hn : a + b <= n) : ((cs.drop a).take b).length = b := by
 rw [yV, vZ]; omega
theorem wf_I {y : Int} (h : (Lit.int .i64 y).wf = true) : I64 y := by
 have : -9223372036854775808 <= y /\ y <= 9223372036854775807 := by simpa [Lit.wf, IntKind.min, IntKind.max, IntKind.signed, IntKind.bits] using h
 exact this
theorem el_I {fuel : Nat} {cs : List Value} {x : DataW H × List MemPlace} (hl : cs.length = 1) (h : DataW.trod enc Tryz.prog W 0 (fun _ => true) true fuel 3 cs = some x) : ∃ y : Int, cs = [.int .i64 y] /\ I64 y := by
 obtain ⟨y, e, hw⟩ := el_int Tryz.underlying3 fuel cs x hl h; exact ⟨y, e, wf_I hw⟩
theorem el_B {fuel : Nat} {cs : List Value} {x : DataW H × List MemPlace} (h : DataW.trod enc Tryz.prog W 0 (fun _ => true) true fuel 4 cs = some x) : ∃ y : Bool, cs = [.bool y] := by
 obtain ⟨y, e, _⟩ := DataW.trod_bool Tryz.underlying4 h; exact ⟨y, e⟩
theorem el_S {fuel : Nat} {cs : List Value} {x : DataW H × List MemPlace} (h : DataW.trod enc Tryz.prog W 0 (fun _ => true) true fuel 9 cs = some x) : ∃ l : List UInt8, cs = [.string (str l)] := by
 obtain ⟨s, e, -, -⟩ := DataW.trod_string Tryz.underlying9 h; exact ⟨s.data.toList, by rw [e, lG]⟩
theorem el_a16 {fuel : Nat} {cs : List Value} {x : DataW H × List MemPlace} (hl : cs.length = 16) (h : DataW.trod enc Tryz.prog W 0 (fun _ => true) true fuel 24 cs = some x) : ∃ l : List UInt8, l.length = 16 /\ cs = uS l := by
 obtain ⟨l, h1, h2, h3⟩ : ∃ l : List Int, l.length = 16 /\ (∀ (i : Nat) z, l[i]? = some z -> (Lit.int .u8 z).wf = true) /\ cs = l.map (Value.int .u8) := by
  have hc := cells_ints Tryz.underlying24 Tryz.underlying5 kf kf h; obtain ⟨l, hl2, hq⟩ := zDg (Q := fun i z => cs[i]? = some (Value.int .u8 z) /\ (Lit.int .u8 z).wf = true) 16 (fun i hi => hc i hi); refine ⟨l, hl2, fun i z hz => (hq i z hz).2, ?_⟩; apply wC; intro i
  by_cases hi : i < 16
  ·have hz : l[i]? = some l[i] := zA om
   rw [(hq i _ hz).1, jL, hz]; rfl
  ·rw [jY om, jY zo]
 refine ⟨l.map fun z => UInt8.ofNat z.toNat, by rw [yX, h1], ?_⟩; rw [h3]; unfold uS; rw [kJ]; apply List.map_congr_left; intro z hz; obtain ⟨i, hi⟩ := List.getElem?_of_mem hz; have hb : 0 <= z /\ z <= 255 := by simpa [Lit.wf, IntKind.min, IntKind.max, IntKind.signed, IntKind.bits] using h2 i z hi
 simp only [Function.comp_apply, Value.int.injEq, rX]; rw [xM]; omega
theorem el_span {fuel : Nat} {cs : List Value} {x : DataW H × List MemPlace} (h : DataW.trod enc Tryz.prog W 0 (fun _ => true) true fuel 23 cs = some x) :
  ∃ a b : Int, cs = [.int .i64 a, .int .i64 b] /\ I64 a /\ I64 b := by
 obtain ⟨m, hl, hg⟩ := flds Tryz.underlying23 h (n := 2) kf; obtain ⟨y0, q0⟩ := hg 0 _ rfl 3 0 1 rfl rfl kf; obtain ⟨n0, e0, w0⟩ := el_I (fF hl zd) q0; obtain ⟨y1, q1⟩ := hg 1 _ rfl 3 1 1 rfl rfl kf; obtain ⟨n1, e1, w1⟩ := el_I (fF hl zd) q1; have e := dt cs 0 1 1 rfl; rw [dt cs 1 1 2 rfl, yO (show cs.length <= 2 from om)] at e; have e9 : cs = _ := (xU (l := cs)).symm.trans e; rw [e0, e1] at e9; exact ⟨n0, n1, e9.trans rfl, w0, w1⟩
theorem el_pf {fuel : Nat} {cs : List Value} {x : DataW H × List MemPlace} (h : DataW.trod enc Tryz.prog W 0 (fun _ => true) true fuel 26 cs = some x) :
  ∃ p : Pf, cs = pfL p /\ p.addr.length = 16 /\ I64 p.len := by
 obtain ⟨m, hl, hg⟩ := flds Tryz.underlying26 h (n := 18) kf; obtain ⟨y0, q0⟩ := hg 0 _ rfl 4 0 1 rfl rfl kf; obtain ⟨n0, e0⟩ := el_B q0; obtain ⟨y1, q1⟩ := hg 1 _ rfl 24 1 16 rfl rfl kf; obtain ⟨l1, hl1, e1⟩ := el_a16 (fF hl zd) q1; obtain ⟨y2, q2⟩ := hg 2 _ rfl 3 17 1 rfl rfl kf; obtain ⟨n2, e2, w2⟩ := el_I (fF hl zd) q2; have e := dt cs 0 1 1 rfl; rw [dt cs 1 16 17 rfl, dt cs 17 1 18 rfl, yO (show cs.length <= 18 from om)] at e; have e9 : cs = _ := (xU (l := cs)).symm.trans e; rw [e0, e1, e2] at e9; exact ⟨⟨n0, l1, n2⟩, e9.trans (by simp only [pfL]; rw [pad16_eq hl1]; simp), hl1, w2⟩
theorem el_hop {fuel : Nat} {cs : List Value} {x : DataW H × List MemPlace} (h : DataW.trod enc Tryz.prog W 0 (fun _ => true) true fuel 29 cs = some x) :
  ∃ (op port backup : Int) (pipe : Bool) (l r : Value) (m : Nat) (y z : DataW H × List MemPlace), cs = [.int .i64 op, l, .int .i64 port, .int .i64 backup, r, .bool pipe] /\ I64 port /\ I64 backup /\ DataW.trod enc Tryz.prog W 0 (fun _ => true) true m 27 [l] = some y /\ DataW.trod enc Tryz.prog W 0 (fun _ => true) true m 27 [r] = some z := by
 obtain ⟨m, hl, hg⟩ := flds Tryz.underlying29 h (n := 6) kf; obtain ⟨y0, q0⟩ := hg 0 _ rfl 3 0 1 rfl rfl kf; obtain ⟨n0, e0, w0⟩ := el_I (fF hl zd) q0; obtain ⟨y1, q1⟩ := hg 1 _ rfl 27 1 1 rfl rfl kf; obtain ⟨v1, e1⟩ : ∃ v, (cs.drop 1).take 1 = [v] := rC.1 (fF hl zd); rw [e1] at q1; obtain ⟨y2, q2⟩ := hg 2 _ rfl 3 2 1 rfl rfl kf; obtain ⟨n2, e2, w2⟩ := el_I (fF hl zd) q2; obtain ⟨y3, q3⟩ := hg 3 _ rfl 3 3 1 rfl rfl kf; obtain ⟨n3, e3, w3⟩ := el_I (fF hl zd) q3; obtain ⟨y4, q4⟩ := hg 4 _ rfl 27 4 1 rfl rfl kf; obtain ⟨v4, e4⟩ : ∃ v, (cs.drop 4).take 1 = [v] := rC.1 (fF hl zd); rw [e4] at q4; obtain ⟨y5, q5⟩ := hg 5 _ rfl 4 5 1 rfl rfl kf; obtain ⟨n5, e5⟩ := el_B q5; have e := dt cs 0 1 1 rfl; rw [dt cs 1 1 2 rfl, dt cs 2 1 3 rfl, dt cs 3 1 4 rfl, dt cs 4 1 5 rfl, dt cs 5 1 6 rfl, yO (show cs.length <= 6 from om)] at e; have e9 : cs = _ := (xU (l := cs)).symm.trans e; rw [e0, e1, e2, e3, e4, e5] at e9; exact ⟨n0, n2, n3, n5, v1, v4, m, y1, y4, e9.trans rfl, w2, w3, q1, q4⟩
theorem el_op {fuel : Nat} {cs : List Value} {x : DataW H × List MemPlace} (h : DataW.trod enc Tryz.prog W 0 (fun _ => true) true fuel 32 cs = some x) :
  ∃ (kind a n owner s1 s2 : Int) (pf : Pf) (op port backup : Int) (pipe : Bool) (l r vw : Value) (text : List UInt8) (m m2 : Nat) (y z u : DataW H × List MemPlace), cs = [.int .i64 kind, .int .i64 a, .int .i64 n, .int .i64 owner] ++ ([.int .i64 s1, .int .i64 s2] ++ (pfL pf ++ ([.int .i64 op, l, .int .i64 port, .int .i64 backup, r, .bool pipe] ++ ([vw] ++ ([.string (str text)] ++ []))))) /\ pf.addr.length = 16 /\ I64 a /\ I64 n /\ I64 owner /\ I64 s1 /\ I64 s2 /\ I64 pf.len /\ I64 port /\ I64 backup /\ DataW.trod enc Tryz.prog W 0 (fun _ => true) true m 27 [l] = some y /\ DataW.trod enc Tryz.prog W 0 (fun _ => true) true m 27 [r] = some z /\ DataW.trod enc Tryz.prog W 0 (fun _ => true) true m2 30 [vw] = some u := by
 obtain ⟨m, hl, hg⟩ := flds Tryz.underlying32 h (n := 32) kf; obtain ⟨y0, q0⟩ := hg 0 _ rfl 3 0 1 rfl rfl kf; obtain ⟨n0, e0, w0⟩ := el_I (fF hl zd) q0; obtain ⟨y1, q1⟩ := hg 1 _ rfl 3 1 1 rfl rfl kf; obtain ⟨n1, e1, w1⟩ := el_I (fF hl zd) q1; obtain ⟨y2, q2⟩ := hg 2 _ rfl 3 2 1 rfl rfl kf; obtain ⟨n2, e2, w2⟩ := el_I (fF hl zd) q2; obtain ⟨y3, q3⟩ := hg 3 _ rfl 3 3 1 rfl rfl kf; obtain ⟨n3, e3, w3⟩ := el_I (fF hl zd) q3; obtain ⟨y4, q4⟩ := hg 4 _ rfl 23 4 2 rfl rfl kf; obtain ⟨sa, sb, e4, wa, wb⟩ := el_span q4; obtain ⟨y5, q5⟩ := hg 5 _ rfl 26 6 18 rfl rfl kf; obtain ⟨pf, e5, p16, pl⟩ := el_pf q5; obtain ⟨y6, q6⟩ := hg 6 _ rfl 29 24 6 rfl rfl kf; obtain ⟨op, port, backup, pipe, l, r, mm, yl, yr, e6, wp, wk, ql, qr⟩ := el_hop q6; obtain ⟨y7, q7⟩ := hg 7 _ rfl 30 30 1 rfl rfl kf; obtain ⟨v7, e7⟩ : ∃ v, (cs.drop 30).take 1 = [v] := rC.1 (fF hl zd); rw [e7] at q7; obtain ⟨y8, q8⟩ := hg 8 _ rfl 9 31 1 rfl rfl kf; obtain ⟨n8, e8⟩ := el_S q8; have e := dt cs 0 1 1 rfl; rw [dt cs 1 1 2 rfl, dt cs 2 1 3 rfl, dt cs 3 1 4 rfl, dt cs 4 2 6 rfl, dt cs 6 18 24 rfl, dt cs 24 6 30 rfl, dt cs 30 1 31 rfl, dt cs 31 1 32 rfl, yO (show cs.length <= 32 from om)] at e; have e9 : cs = _ := (xU (l := cs)).symm.trans e; rw [e0, e1, e2, e3, e4, e5, e6, e7, e8] at e9; exact ⟨n0, n1, n2, n3, sa, sb, pf, op, port, backup, pipe, l, r, v7, n8, mm, m, yl, yr, y7, e9.trans zi, p16, w1, w2, w3, wa, wb, pl, wp, wk, ql, qr, q7⟩
theorem el_pk {fuel : Nat} {cs : List Value} {x : DataW H × List MemPlace} (h : DataW.trod enc Tryz.prog W 0 (fun _ => true) true fuel 35 cs = some x) :
  ∃ (q : Int) (b : Bool) (v : Value) (m : Nat) (y : DataW H × List MemPlace), cs = [.int .i64 q, .bool b, v] /\ I64 q /\ DataW.trod enc Tryz.prog W 0 (fun _ => true) true m 33 [v] = some y := by
 obtain ⟨m, hl, hg⟩ := flds Tryz.underlying35 h (n := 3) kf; obtain ⟨y0, q0⟩ := hg 0 _ rfl 3 0 1 rfl rfl kf; obtain ⟨n0, e0, w0⟩ := el_I (fF hl zd) q0; obtain ⟨y1, q1⟩ := hg 1 _ rfl 4 1 1 rfl rfl kf; obtain ⟨n1, e1⟩ := el_B q1; obtain ⟨y2, q2⟩ := hg 2 _ rfl 33 2 1 rfl rfl kf; obtain ⟨v2, e2⟩ : ∃ v, (cs.drop 2).take 1 = [v] := rC.1 (fF hl zd); rw [e2] at q2; have e := dt cs 0 1 1 rfl; rw [dt cs 1 1 2 rfl, dt cs 2 1 3 rfl, yO (show cs.length <= 3 from om)] at e; have e9 : cs = _ := (xU (l := cs)).symm.trans e; rw [e0, e1, e2] at e9; exact ⟨n0, n1, v2, m, y2, e9.trans rfl, w0, q2⟩
theorem StepCells (s : StV) (p16 : s.t.pf.addr.length = 16) : (zY s)[26]? = some s.vl /\ (zY s)[29]? = some s.vr /\ (zY s)[31]? = some s.vw /\ (zY s)[35]? = some s.vb := by
 obtain ⟨⟨is, kind, a, nn, owner, s1, s2, ⟨six, addr, len⟩, ⟨op, labels, port, backup, repair, pipe⟩, ways, text, prt, mpls, bytes⟩, vl, vr, vw, vb⟩ := s; simp only at p16; obtain ⟨x0, x1, x2, x3, x4, x5, x6, x7, x8, x9, x10, x11, x12, x13, x14, x15, rfl⟩ := aJ p16; exact ⟨rfl, rfl, rfl, rfl⟩
theorem el_step {fuel : Nat} {cs : List Value} {x : DataW H × List MemPlace} (h : DataW.trod enc Tryz.prog W 0 (fun _ => true) true fuel 37 cs = some x) :
  ∃ (s : StV) (m m2 m3 : Nat) (y z u v : DataW H × List MemPlace), cs = uC s /\ s.t.hop.labels = [] /\ s.t.hop.repair = [] /\ s.t.ways = [] /\ s.t.bytes = [] /\ s.t.pf.addr.length = 16 /\ NB s.t /\ DataW.trod enc Tryz.prog W 0 (fun _ => true) true m 27 [s.vl] = some y /\ DataW.trod enc Tryz.prog W 0 (fun _ => true) true m 27 [s.vr] = some z /\ DataW.trod enc Tryz.prog W 0 (fun _ => true) true m2 30 [s.vw] = some u /\ DataW.trod enc Tryz.prog W 0 (fun _ => true) true m3 33 [s.vb] = some v := by
 obtain ⟨m, hl, hg⟩ := flds Tryz.underlying37 h (n := 36) kf; obtain ⟨y0, q0⟩ := hg 0 _ rfl 4 0 1 rfl rfl kf; obtain ⟨y1, q1⟩ := hg 1 _ rfl 32 1 32 rfl rfl kf; obtain ⟨y2, q2⟩ := hg 2 _ rfl 35 33 3 rfl rfl kf; obtain ⟨is, e0⟩ := el_B q0; obtain ⟨kind, a, n, owner, s1, s2, pf, op, port, backup, pipe, l, r, vw, text, ma, mb, ya, yb, yc, e1, p16, ia, iN, io, is1, is2, ipl, ip, ib, ql, qr, qw⟩ := el_op q1; obtain ⟨prt, mpls, vb, mc, yd, e2, iq, qb⟩ := el_pk q2; have e := dt cs 0 1 1 rfl; rw [dt cs 1 32 33 rfl, dt cs 33 3 36 rfl, yO (show cs.length <= 36 from om)] at e; have e9 : cs = _ := (xU (l := cs)).symm.trans e; rw [e0, e1, e2] at e9; exact ⟨⟨⟨is, kind, a, n, owner, s1, s2, pf, ⟨op, [], port, backup, [], pipe⟩, [], text, prt, mpls, []⟩, l, r, vw, vb⟩, ma, mb, mc, ya, yb, yc, yd, e9.trans (by simp [uC, preL, hopL, sD]), rfl, rfl, rfl, rfl, p16, ⟨ia, iN, io, is1, is2, iq, ipl, (fun n hn => by cases hn), (fun n hn => by cases hn), ip, ib, (fun p hp => by cases hp)⟩, ql, qr, qw, qb⟩
theorem SlR.unbound {α : Type} {p : α -> Prop} {k : Nat} {ec : α -> List Value} {v : Value} {l : List { x : α // p x }} (h : SlR W k (fun y : { x : α // p x } => ec y.1) v l) : SlR W k ec v (l.map (·.1)) := by
 obtain ⟨q, c, rfl, h2, h3, h4, h5⟩ := h; refine ⟨q, c, by rw [yX], by rw [yX]; exact h2, h3, fun e => by rw [yX]; exact h4 e, fun a ha hn => ?_⟩; obtain ⟨h6, h7, h8⟩ := h5 a ha (by rwa [yX] at hn); refine ⟨h6, h7, fun i x hx j u hu => ?_⟩; rw [jL] at hx
 cases hy : l[i]? with
 | none => rw [hy] at hx; cases hx
 |some y =>
  rw [hy] at hx
  cases hx; exact h8 i y hy j u hu
theorem SlR.any {α : Type} {k : Nat} {ec : α -> List Value} {v : Value} {l : List α} (h : SlR W k ec v l) : SlP (fun _ => True) W k ec v l := by
 obtain ⟨p, c, h1, h2, h3, h4⟩ := h; exact ⟨p, c, h1, h2, h3, h4, fun _ _ _ => trivial⟩
theorem el_way {fuel : Nat} {cs : List Value} {x : DataW H × List MemPlace} (h : DataW.trod enc Tryz.prog W 0 (fun _ => true) true fuel 131 cs = some x) : ∃ y : { p : Int × Int // I64 p.1 /\ I64 p.2 }, cs = aV y.1 := by
 obtain ⟨m, hl, hg⟩ := flds Tryz.underlying131 h (n := 2) kf; obtain ⟨y0, q0⟩ := hg 0 _ rfl 3 0 1 rfl rfl kf; obtain ⟨y1, q1⟩ := hg 1 _ rfl 3 1 1 rfl rfl kf; obtain ⟨a, e0, wa⟩ := el_I (fF hl zd) q0; obtain ⟨b, e1, wb⟩ := el_I (fF hl zd) q1; have e := dt cs 0 1 1 rfl; rw [dt cs 1 1 2 rfl, yO (show cs.length <= 2 from om)] at e; have e9 : cs = _ := (xU (l := cs)).symm.trans e; rw [e0, e1] at e9; exact ⟨⟨(a, b), wa, wb⟩, e9.trans rfl⟩
theorem ints_arg {base : Nat} {v : Value} {n : Nat} {y : DataW H × List MemPlace} (hv : Value.okWide Tryz.prog W .any base 27 v) (h : DataW.trod enc Tryz.prog W 0 (fun _ => true) true n 27 [v] = some y) : ∃ l : List Int, (∀ x ∈ l, I64 x) /\ SlR W 1 encI v l := by
 have ht : DataW.Trod enc Tryz.prog W 0 (fun _ => true) true 27 v y.1 y.2 := by
  obtain ⟨a0, len0, cap0, rfl⟩ := okWide_slice Tryz.underlying27 hv; exact ⟨n, h⟩
 obtain ⟨l, hl⟩ := zDt (ec := fun y : { y : Int // I64 y } => encI y.1) (fun _ => rfl) kf kf hv ht (fun fuel cs x hl hh => by
  obtain ⟨y, e, w⟩ := el_I hl hh; exact ⟨⟨y, w⟩, e⟩)
 exact ⟨l.map (·.1), (fun x hx => by obtain ⟨y, _, rfl⟩ := vB.1 hx; exact y.2), hl.unbound⟩
theorem ways_arg {base : Nat} {v : Value} {n : Nat} {y : DataW H × List MemPlace} (hv : Value.okWide Tryz.prog W .any base 30 v) (h : DataW.trod enc Tryz.prog W 0 (fun _ => true) true n 30 [v] = some y) : ∃ l : List (Int × Int), (∀ x ∈ l, I64 x.1 /\ I64 x.2) /\ SlR W 2 aV v l := by
 have ht : DataW.Trod enc Tryz.prog W 0 (fun _ => true) true 30 v y.1 y.2 := by
  obtain ⟨a0, len0, cap0, rfl⟩ := okWide_slice Tryz.underlying30 hv; exact ⟨n, h⟩
 obtain ⟨l, hl⟩ := zDt (ec := fun y : { p : Int × Int // I64 p.1 /\ I64 p.2 } => aV y.1) (k := 2) (fun y => nX y.1) kf kf hv ht (fun fuel cs x hl hh => el_way hh); exact ⟨l.map (·.1), (fun x hx => by obtain ⟨y, _, rfl⟩ := vB.1 hx; exact y.2), hl.unbound⟩
theorem bytes_arg {base : Nat} {v : Value} {n : Nat} {y : DataW H × List MemPlace} (hv : Value.okWide Tryz.prog W .any base 33 v) (h : DataW.trod enc Tryz.prog W 0 (fun _ => true) true n 33 [v] = some y) : ∃ l : List UInt8, SlR W 1 encB v l := by
 have ht : DataW.Trod enc Tryz.prog W 0 (fun _ => true) true 33 v y.1 y.2 := by
  obtain ⟨a0, len0, cap0, rfl⟩ := okWide_slice Tryz.underlying33 hv; exact ⟨n, h⟩
 exact zDt (ec := encB) (fun _ => rfl) kf kf hv ht (fun fuel cs x hl hh => by
  obtain ⟨z, e, hw⟩ := el_int Tryz.underlying5 fuel cs x hl hh; have hb : 0 <= z /\ z <= 255 := by simpa [Lit.wf, IntKind.min, IntKind.max, IntKind.signed, IntKind.bits] using hw
  refine ⟨UInt8.ofNat z.toNat, ?_⟩; rw [e]; simp only [encB, rY, Value.int.injEq, rX, pQ]; rw [xM]; omega)
theorem step_of_arg {base : Nat} {v : Value} {d : DataW H} {ps : List MemPlace} (hv : Value.okWide Tryz.prog W .any base 37 v) (h : DataW.Trod enc Tryz.prog W 0 (fun _ => true) true 37 v d ps) :
  ∃ t : StV, v = .agg (zY t) /\ xX (fun _ => True) W t /\ t.t.pf.addr.length = 16 /\ NB t.t := by
 simp only [Value.okWide, Tryz.underlying37] at hv; obtain ⟨cs, rfl, _, ts, hts, _, hrow⟩ := hv; have hts' : Tryz.prog.cellTypes Tryz.prog.depth 37 = some [4, 3, 3, 3, 3, 3, 3, 4, 5, 5, 5, 5, 5, 5, 5, 5, 5, 5, 5, 5, 5, 5, 5, 5, 3, 3, 27, 3, 3, 27, 4, 30, 9, 3, 4, 33] := kf; rw [hts'] at hts
 cases hts; obtain ⟨fuel, hf⟩ := h; obtain ⟨s, m, m2, m3, y, z, u, vv, e, -, -, -, -, p16, nb, q1, q2, q3, q4⟩ := el_step (cs := cs.toList) (by simpa [Value.cells] using hf)
 have hcs : cs = zY s := by
  have h2 : cs = cs.toList.toArray := zi; rw [h2, e]; rfl
 subst hcs; have g := StepCells s p16; obtain ⟨t1, u1, c1⟩ := hrow 26 s.vl g.1; obtain ⟨t2, u2, c2⟩ := hrow 29 s.vr g.2.1; obtain ⟨t3, u3, c3⟩ := hrow 31 s.vw g.2.2.1; obtain ⟨t4, u4, c4⟩ := hrow 35 s.vb g.2.2.2
 cases u1
 cases u2
 cases u3
 cases u4; obtain ⟨L, hL1, hL2⟩ := ints_arg (by simp only [Value.okWide, Tryz.underlying27]; exact c1) q1; obtain ⟨R, hR1, hR2⟩ := ints_arg (by simp only [Value.okWide, Tryz.underlying27]; exact c2) q2; obtain ⟨Y, hY1, hY2⟩ := ways_arg (by simp only [Value.okWide, Tryz.underlying30]; exact c3) q3; obtain ⟨B, hB2⟩ := bytes_arg (by simp only [Value.okWide, Tryz.underlying33]; exact c4) q4; refine ⟨{ s with t := { s.t with hop := { s.t.hop with labels := L, repair := R }, ways := Y, bytes := B } }, rfl, ⟨hL2.any, hR2.any, hY2.any, hB2.any⟩, p16, ⟨nb.a, nb.n, nb.o, nb.s1, nb.s2, nb.q, nb.pl, hL1, hR1, nb.hq, nb.hb, hY1⟩⟩
end
section
variable {H : Type} {enc : TypeId × Value -> H} {W : World}
theorem ints_trod {v : Value} {n : Nat} {y : DataW H × List MemPlace} (h : DataW.trod enc Tryz.prog W 0 (fun _ => true) true n 27 [v] = some y) : ∃ l : List Int, (∀ x ∈ l, I64 x) /\ SlR W 1 encI v l := by
 obtain ⟨l, hl⟩ := oH (k := 1) (ec := fun y : { y : Int // I64 y } => encI y.1) (fun _ => rfl) zd Tryz.underlying27 kf h (fun fuel cs x hl hh => by
  obtain ⟨y, e, w⟩ := el_I hl hh; exact ⟨⟨y, w⟩, e⟩)
 exact ⟨l.map (·.1), (fun x hx => by obtain ⟨y, _, rfl⟩ := vB.1 hx; exact y.2), hl.unbound⟩
theorem ways_trod {v : Value} {n : Nat} {y : DataW H × List MemPlace} (h : DataW.trod enc Tryz.prog W 0 (fun _ => true) true n 30 [v] = some y) : ∃ l : List (Int × Int), (∀ x ∈ l, I64 x.1 /\ I64 x.2) /\ SlR W 2 aV v l := by
 obtain ⟨l, hl⟩ := oH (ec := fun y : { p : Int × Int // I64 p.1 /\ I64 p.2 } => aV y.1) (k := 2) (fun y => nX y.1) om Tryz.underlying30 kf h (fun fuel cs x hl hh => el_way hh); exact ⟨l.map (·.1), (fun x hx => by obtain ⟨y, _, rfl⟩ := vB.1 hx; exact y.2), hl.unbound⟩
theorem bytes_trod {v : Value} {n : Nat} {y : DataW H × List MemPlace} (h : DataW.trod enc Tryz.prog W 0 (fun _ => true) true n 33 [v] = some y) : ∃ l : List UInt8, SlR W 1 encB v l :=
 oH (k := 1) (ec := encB) (fun _ => rfl) zd Tryz.underlying33 kf h (fun fuel cs x hl hh => by
  obtain ⟨z, e, hw⟩ := el_int Tryz.underlying5 fuel cs x hl hh; have hb : 0 <= z /\ z <= 255 := by simpa [Lit.wf, IntKind.min, IntKind.max, IntKind.signed, IntKind.bits] using hw
  refine ⟨UInt8.ofNat z.toNat, ?_⟩; rw [e]; simp only [encB, rY, Value.int.injEq, rX, pQ]; rw [xM]; omega)
theorem step_trod {fuel : Nat} {cs : List Value} {x : DataW H × List MemPlace} (h : DataW.trod enc Tryz.prog W 0 (fun _ => true) true fuel 37 cs = some x) : ∃ t : { s : StV // xX (fun _ => True) W s /\ s.t.pf.addr.length = 16 /\ NB s.t }, cs = uC t.1 := by
 obtain ⟨s, m, m2, m3, y, z, u, vv, e, -, -, -, -, p16, nb, q1, q2, q3, q4⟩ := el_step h; obtain ⟨L, hL1, hL2⟩ := ints_trod q1; obtain ⟨R, hR1, hR2⟩ := ints_trod q2; obtain ⟨Y, hY1, hY2⟩ := ways_trod q3; obtain ⟨B, hB2⟩ := bytes_trod q4; exact ⟨⟨{ s with t := { s.t with hop := { s.t.hop with labels := L, repair := R }, ways := Y, bytes := B } }, ⟨hL2.any, hR2.any, hY2.any, hB2.any⟩, p16, ⟨nb.a, nb.n, nb.o, nb.s1, nb.s2, nb.q, nb.pl, hL1, hR1, nb.hq, nb.hb, hY1⟩⟩, e⟩
theorem el_arrB {n : Nat} {q : TypeId} (hq : Tryz.prog.underlying q = some (.array n 5)) (hc : Tryz.prog.cellsOf q = n) {fuel : Nat} {cs : List Value} {x : DataW H × List MemPlace} (h : DataW.trod enc Tryz.prog W 0 (fun _ => true) true fuel q cs = some x) : ∃ l : List UInt8, l.length = n /\ cs = uS l := by
 have hl0 : cs.length = n := by
  obtain ⟨_, _, _, _, hcl, _, _⟩ := DataW.trod_array hq h; rw [hcl, hc]
 have hc' := cells_ints hq Tryz.underlying5 kf hc h
 ·obtain ⟨l, hl2, hqq⟩ := zDg (Q := fun i z => cs[i]? = some (Value.int .u8 z) /\ (Lit.int .u8 z).wf = true) n (fun i hi => hc' i hi)
  refine ⟨l.map fun z => UInt8.ofNat z.toNat, by rw [yX, hl2], ?_⟩; unfold uS; rw [kJ]; apply wC; intro i
  by_cases hi : i < n
  ·have hz : l[i]? = some l[i] := zA om
   obtain ⟨c1, c2⟩ := hqq i _ hz; have hb : 0 <= l[i] /\ l[i] <= 255 := by simpa [Lit.wf, IntKind.min, IntKind.max, IntKind.signed, IntKind.bits] using c2
   rw [c1, jL, hz]; simp only [mZ, Function.comp_apply, uX, Value.int.injEq, rX]; rw [xM]; omega
  ·rw [jY om, jY zo]
theorem el_rooms {fuel : Nat} {cs : List Value} {x : DataW H × List MemPlace} (h : DataW.trod enc Tryz.prog W 0 (fun _ => true) true fuel 55 cs = some x) :
  ∃ a b c : Int, cs = [.int .i64 a, .int .i64 b, .int .i64 c] /\ I64 a /\ I64 b /\ I64 c := by
 obtain ⟨m, hl, hg⟩ := flds Tryz.underlying55 h (n := 3) kf; obtain ⟨y0, q0⟩ := hg 0 _ rfl 3 0 1 rfl rfl kf; obtain ⟨n0, e0, w0⟩ := el_I (fF hl zd) q0; obtain ⟨y1, q1⟩ := hg 1 _ rfl 3 1 1 rfl rfl kf; obtain ⟨n1, e1, w1⟩ := el_I (fF hl zd) q1; obtain ⟨y2, q2⟩ := hg 2 _ rfl 3 2 1 rfl rfl kf; obtain ⟨n2, e2, w2⟩ := el_I (fF hl zd) q2; have e := dt cs 0 1 1 rfl; rw [dt cs 1 1 2 rfl, dt cs 2 1 3 rfl, yO (show cs.length <= 3 from om)] at e; have e9 : cs = _ := (xU (l := cs)).symm.trans e; rw [e0, e1, e2] at e9; exact ⟨n0, n1, n2, e9.trans rfl, w0, w1, w2⟩
theorem el_self {fuel : Nat} {cs : List Value} {x : DataW H × List MemPlace} (h : DataW.trod enc Tryz.prog W 0 (fun _ => true) true fuel 58 cs = some x) :
  ∃ a b : List UInt8, a.length = 4 /\ b.length = 16 /\ cs = uS a ++ (uS b ++ []) := by
 obtain ⟨m, hl, hg⟩ := flds Tryz.underlying58 h (n := 20) kf; obtain ⟨y0, q0⟩ := hg 0 _ rfl 56 0 4 rfl rfl kf; obtain ⟨a, ha, e0⟩ := el_arrB Tryz.underlying56 kf q0; obtain ⟨y1, q1⟩ := hg 1 _ rfl 24 4 16 rfl rfl kf; obtain ⟨b, hb, e1⟩ := el_arrB Tryz.underlying24 kf q1; have e := dt cs 0 4 4 rfl; rw [dt cs 4 16 20 rfl, yO (show cs.length <= 20 from om)] at e; have e9 : cs = _ := (xU (l := cs)).symm.trans e; rw [e0, e1] at e9; exact ⟨a, b, ha, hb, e9⟩
theorem el_script {fuel : Nat} {cs : List Value} {x : DataW H × List MemPlace} (h : DataW.trod enc Tryz.prog W 0 (fun _ => true) true fuel 61 cs = some x) :
  ∃ (x : Sc.Scr) (v : Value) (m : Nat) (y : DataW H × List MemPlace), cs = scL x v /\ x.steps = [] /\ Sc.Sized x /\ I64 x.r1 /\ I64 x.r2 /\ I64 x.r3 /\ DataW.trod enc Tryz.prog W 0 (fun _ => true) true m 59 [v] = some y := by
 obtain ⟨m, hl, hg⟩ := flds Tryz.underlying61 h (n := 24) kf; obtain ⟨y0, q0⟩ := hg 0 _ rfl 55 0 3 rfl rfl kf; obtain ⟨n0, n1, n2, e0, w0, w1, w2⟩ := el_rooms q0; obtain ⟨y1, q1⟩ := hg 1 _ rfl 58 3 20 rfl rfl kf; obtain ⟨a, b, ha, hb, e1⟩ := el_self q1; obtain ⟨y2, q2⟩ := hg 2 _ rfl 59 23 1 rfl rfl kf; obtain ⟨v2, e2⟩ : ∃ v, (cs.drop 23).take 1 = [v] := rC.1 (fF hl zd); rw [e2] at q2; have e := dt cs 0 3 3 rfl; rw [dt cs 3 20 23 rfl, dt cs 23 1 24 rfl, yO (show cs.length <= 24 from om)] at e; have e9 : cs = _ := (xU (l := cs)).symm.trans e; rw [e0, e1, e2] at e9; exact ⟨⟨n0, n1, n2, a, b, []⟩, v2, m, y2, e9.trans (by simp [scL, rmA, slA, uS]), rfl, ⟨ha, hb⟩, w0, w1, w2, q2⟩
theorem script_of_arg {base : Nat} {v : Value} {d : DataW H} {ps : List MemPlace} (hv : Value.okWide Tryz.prog W .any base 61 v) (h : DataW.Trod enc Tryz.prog W 0 (fun _ => true) true 61 v d ps) :
  ∃ (x : Sc.Scr) (sa : List StV) (va : Value), v = .agg (scA x va) /\ ScIn xX W x sa va /\ I64 x.r1 /\ I64 x.r2 /\ I64 x.r3 /\ ∀ t ∈ x.steps, NB t := by
 simp only [Value.okWide, Tryz.underlying61] at hv; obtain ⟨cs, rfl, _⟩ := hv; obtain ⟨fuel, hf⟩ := h; obtain ⟨x, va, m, y, e, hs, hz, i1, i2, i3, q⟩ := el_script (cs := cs.toList) (by simpa [Value.cells] using hf); obtain ⟨l, hl⟩ := oH (ec := fun t : { s : StV // xX (fun _ => True) W s /\ s.t.pf.addr.length = 16 /\ NB s.t } => uC t.1) (k := 36) (fun t => kX t.1) om Tryz.underlying59 kf q (fun fuel cs x _ hh => step_trod hh); refine ⟨{ x with steps := l.map (·.1.t) }, l.map (·.1), va, ?_, ⟨⟨hz.four, hz.six⟩, zi, hl.unbound, ?_, ?_⟩, i1, i2, i3, ?_⟩
 ·have h2 : cs = cs.toList.toArray := zi
  rw [h2, e]; rfl
 ·intro s hs; obtain ⟨t, _, rfl⟩ := vB.1 hs; exact t.2.1
 ·intro s hs; obtain ⟨t, _, rfl⟩ := vB.1 hs; exact t.2.2.1
 ·intro s hs; obtain ⟨t, _, rfl⟩ := vB.1 hs; exact t.2.2.2
end
end Go.Proofs.YtdbgeobolongmaaGreatDoor
