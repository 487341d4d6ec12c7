/- Part of the proof: contracts of the functions that the statements of layer 32 reach. -/
import Derived.Deep.Cut
import Derived.Test.YtdbgeobolongmaaGreatDoorV12
import Derived.Test.YtdbgeobolongmaaGreatDoorV30
import Derived.Test.YtdbgeobolongmaaGreatDoorV32
import Derived.Test.YtdbgeobolongmaaGreatDoorV34
set_option linter.unusedVariables false
set_option linter.unusedSimpArgs false
set_option maxRecDepth 100000
set_option maxHeartbeats 8000000
namespace Go.Proofs.YtdbgeobolongmaaGreatDoor
open Go.RowKit Go.Shelf Go.Proofs Go.OctetPlain Go.PrefixPlain
def wsA (t : Sc.Stp) (x : Hp.Wd) : List Hp.Wd := x :: (Sc.partsOf x).flatMap fun p => shwA p t
def textA (t : Sc.Stp) : List UInt8 := match Sc.wordOf t with | some x => Hp.join (wsA t x) | none => []
def lineA (t : Sc.Stp) : List UInt8 := if Sc.oneR (textA t) = some t then textA t else []
theorem okOne {W : World} {s : StV} {l : List UInt8} (h : Sc.oneR l = some s.t) (hl : l.length ≤ 65536) (p16 : s.t.pf.addr.length = 16) (hi : Inner (fun _ => True) W s) : SameOK W s := by
 have hf := (Sc.one_fits h).hop
 have hs := one_sz h hl
 have hh : s.t.hop.labels.length ≤ 1073741824 ∧ s.t.hop.repair.length ≤ 1073741824 := by
  rcases hf with hf | hf
  ·rw [hf]; exact ⟨by decide, by decide⟩
  ·have hv := (Hp.check_iff _).1 hf
   have h1 := hv.n1
   have h2 := hv.n2
   exact ⟨by omega, by omega⟩
 exact ⟨hi, p16, hh.1, hh.2, hs.1, hs.2⟩
theorem words_le : ∀ l : List Hp.Wd, l.length ≤ (Hp.join l).length + 1
 | [] => by simp
 | [w] => by simp [Hp.join]
 | w :: v :: r => by
  have := words_le (v :: r)
  simp only [Hp.join, List.length_append, List.length_cons] at this ⊢
  omega
theorem wpList_offG {P : Program} {OPS : Array Oper} {Q : Exit → Act → World → Prop} {o : Oper} {rest : List Oper} {a : Act} {w : World} (hw : Region.wanted o (yielded OPS a.tmps) = false) (h : wpList P OPS Q rest (a.put o.dst undef) w) : wpList P OPS Q (o :: rest) a w := by
 unfold wpList
 rw [if_neg (by rw [hw]; decide)]
 exact h
theorem wpList_offS {P : Program} {OPS : Array Oper} {Q : Exit → Act → World → Prop} {o : Oper} {rest : List Oper} {a : Act} {w : World} (hw : Region.wanted o (yielded OPS a.tmps) = false) (hp : a.put o.dst undef = a) (h : wpList P OPS Q rest a w) : wpList P OPS Q (o :: rest) a w :=
 wpList_offG hw (by rw [hp]; exact h)
def PartsF (lo hi : Nat) (w : World) : List (Value × Value) → List Sc.Part → Prop
 | [], [] => True
 | (vs, vr) :: r, p :: ps => PartV lo hi w p vs vr ∧ PartsF lo hi w r ps
 | _, _ => False
theorem PartsF.of {lo : Nat} {w : World} : ∀ {r : List (Value × Value)} {ps : List Sc.Part}, PartsL lo w r ps → PartsF lo w.heap.size w r ps
 | [], [], _ => trivial
 | [], _ :: _, h => h.elim
 | (_, _) :: _, [], h => h.elim
 | (_, _) :: _, _ :: _, h => ⟨h.1, PartsF.of h.2⟩
theorem PartsF.len {lo hi : Nat} {w : World} : ∀ {r : List (Value × Value)} {ps : List Sc.Part}, PartsF lo hi w r ps → r.length = ps.length
 | [], [], _ => rfl
 | [], _ :: _, h => h.elim
 | (_, _) :: _, [], h => h.elim
 | (_, _) :: _, _ :: _, h => by rw [List.length_cons, List.length_cons, h.2.len]
theorem PartsF.mono {lo hi : Nat} {w w' : World} (ha : Agree lo hi w w') : ∀ {r : List (Value × Value)} {ps : List Sc.Part}, PartsF lo hi w r ps → PartsF lo hi w' r ps
 | [], [], _ => trivial
 | [], _ :: _, h => h.elim
 | (_, _) :: _, [], h => h.elim
 | (_, _) :: _, _ :: _, h => ⟨h.1.mono ha (Nat.le_refl _) (Nat.le_refl _), PartsF.mono ha h.2⟩
theorem PartsF.get {lo hi : Nat} {w : World} : ∀ {r : List (Value × Value)} {ps : List Sc.Part}, PartsF lo hi w r ps → ∀ {i : Nat} {p : Sc.Part} {vs vr : Value}, ps[i]? = some p → r[i]? = some (vs, vr) → PartV lo hi w p vs vr
 | [], [], _, i, p, vs, vr, h1, h2 => by simp at h1
 | [], _ :: _, h, _, _, _, _, _, _ => h.elim
 | (_, _) :: _, [], h, _, _, _, _, _, _ => h.elim
 | (a, b) :: r, q :: ps, h, 0, p, vs, vr, h1, h2 => by
  simp only [List.getElem?_cons_zero, Option.some.injEq, Prod.mk.injEq] at h1 h2
  obtain ⟨rfl, rfl⟩ := h2
  subst h1
  exact h.1
 | (a, b) :: r, q :: ps, h, i + 1, p, vs, vr, h1, h2 => h.2.get (by simpa using h1) (by simpa using h2)
def PIn (lo hi : Nat) (w : World) (v : Value) (ps : List Sc.Part) : Prop := ∃ rows, PartsF lo hi w rows ps ∧ SlP (fun b => lo ≤ b ∧ b < hi ∧ ∃ t cs, Blk w b t cs) w 2 encPt v rows
theorem PIn.of {lo : Nat} {w : World} {v : Value} {ps : List Sc.Part} (h : PartsAre lo w v ps) : PIn lo w.heap.size w v ps := by
 obtain ⟨rows, h1, h2⟩ := h
 exact ⟨rows, .of h1, h2.bd.imp fun b hb => ⟨hb.1.1, hb.2, hb.1.2⟩⟩
theorem PIn.agree {lo hi : Nat} {w w' : World} {v : Value} {ps : List Sc.Part} (h : PIn lo hi w v ps) (ha : Agree lo hi w w') (hz : w.heap.size ≤ w'.heap.size) : PIn lo hi w' v ps := by
 obtain ⟨rows, h1, p, c, e, l1, l2, hR, hq⟩ := h
 refine ⟨rows, h1.mono ha, p, c, e, l1, l2, ⟨hR.1, fun a hp hn => ?_⟩, fun a hp hn => ?_⟩
 ·obtain ⟨r1, r2, r3⟩ := hR.2 a hp hn
  obtain ⟨q1, q2, t, cs, hb⟩ := hq a hp hn
  refine ⟨r1, Nat.lt_of_lt_of_le r2 hz, fun i x hx j u hu => ?_⟩
  have hw := r3 i x hx j u hu
  have hb' := ha a.block q1 q2 cs t (0, 0) hb
  have hb2 : w.heap[a.block]? = some (.cells cs t (0, 0)) := hb
  simp only [World.cell?, hb2] at hw
  simp only [World.cell?, hb']
  exact hw
 ·obtain ⟨q1, q2, t, cs, hb⟩ := hq a hp hn
  exact ⟨q1, q2, t, cs, ha a.block q1 q2 cs t (0, 0) hb⟩
theorem SlP.low {α : Type} {enc : α → List Value} {w w' : World} {k B C : Nat} {v : Value} {xs : List α} (h : SlP (· < B) w k enc v xs) (hb : Below C w w') (hB : B ≤ C) : SlP (· < B) w' k enc v xs := by
 obtain ⟨p, c, e, l1, l2, hR, hq⟩ := h
 refine ⟨p, c, e, l1, l2, ⟨hR.1, fun a hp hn => ?_⟩, hq⟩
 obtain ⟨r1, r2, r3⟩ := hR.2 a hp hn
 refine ⟨r1, Nat.lt_of_lt_of_le r2 hb.size, fun i x hx j u hu => ?_⟩
 exact (hb.cell (p := ⟨a.block, a.off + i * k + j, none⟩) (Nat.lt_of_lt_of_le (hq a hp hn) hB)).trans (r3 i x hx j u hu)
theorem Inner.low {w w' : World} {B C : Nat} {s : StV} (h : Inner (· < B) w s) (hb : Below C w w') (hB : B ≤ C) : Inner (· < B) w' s := ⟨h.l.low hb hB, h.r.low hb hB, h.ws.low hb hB, h.b.low hb hB⟩
theorem Inner.bd {w : World} {s : StV} {q : Nat → Prop} (h : Inner q w s) : Inner (· < w.heap.size) w s := ⟨h.l.bd.imp fun _ h => h.2, h.r.bd.imp fun _ h => h.2, h.ws.bd.imp fun _ h => h.2, h.b.bd.imp fun _ h => h.2⟩
theorem Agree.of_grownO {lo hi : Nat} {w w' : World} {ob : Option Nat} (h : w.grownBy w' ob) (hn : ∀ g, ob = some g → ¬ (lo ≤ g ∧ g < hi)) : Agree lo hi w w' := fun k h1 h2 cs t fr hc =>
 (h.block k (Array.getElem?_eq_some_iff.1 hc).1 (fun e => hn k e.symm ⟨h1, h2⟩)).trans hc
structure LnS (w : World) (X base lo hi : Nat) (ps : List Sc.Part) (s : StV) (x : Hp.Wd) (k : Nat) (vl vk : Value) (wr : World) : Prop where
 S : StAt wr X s
 I : Inner (· < X) wr s
 own : wr.ownsRow base 9 1 vl (x :: (ps.take k).flatMap fun p => shwA p s.t).length (flat encS (x :: (ps.take k).flatMap fun p => shwA p s.t))
 ob : ∀ g, vl.ownBlock = some g → ¬ (lo ≤ g ∧ g < hi)
 P : PIn lo hi wr vk ps
 B : Below w.heap.size w wr
 T : ST w
 hz : hi ≤ wr.heap.size
 bz : base < lo ∧ lo ≤ hi
 XB : X < base
 wX : w.heap.size ≤ X
theorem LnS.below {w wr w' : World} {X base lo hi k : Nat} {ps : List Sc.Part} {s : StV} {x : Hp.Wd} {vl vk : Value} (h : LnS w X base lo hi ps s x k vl vk wr) (hb : Below wr.heap.size wr w') : LnS w X base lo hi ps s x k vl vk w' :=
 ⟨h.S.next hb, h.I.low hb (Nat.le_of_lt h.S.lt), owns_below h.own hb (Nat.le_refl _), h.ob, h.P.agree (Agree.of_below hb h.hz) hb.size, h.B.trans (hb.mono h.B.size), h.T, Nat.le_trans h.hz hb.size, h.bz, h.XB, h.wX⟩
theorem LnS.app {w wr w' : World} {X base lo hi k : Nat} {ps : List Sc.Part} {s : StV} {x : Hp.Wd} {vl vk v' : Value} (h : LnS w X base lo hi ps s x k vl vk wr) {p : Sc.Part} (hp : ps.take (k + 1) = ps.take k ++ [p])
  (ho : w'.ownsRow base 9 1 v' ((x :: (ps.take k).flatMap fun p => shwA p s.t).length + (shwA p s.t).length) (flat encS (x :: (ps.take k).flatMap fun p => shwA p s.t) ++ flat encS (shwA p s.t))) (hg : wr.grownBy w' vl.ownBlock) (hob : v'.ownBlock = vl.ownBlock ∨ v'.ownBlock = some wr.heap.size) (hb : Below base wr w') : LnS w X base lo hi ps s x (k + 1) v' vk w' := by
 refine ⟨h.S.below hb h.XB, h.I.low hb (Nat.le_of_lt h.XB), ?_, fun g e => ?_, h.P.agree (Agree.of_grownO hg h.ob) hb.size, ?_, h.T, Nat.le_trans h.hz hb.size, h.bz, h.XB, h.wX⟩
 ·have e : (x :: (ps.take (k + 1)).flatMap fun p => shwA p s.t) = (x :: (ps.take k).flatMap fun p => shwA p s.t) ++ shwA p s.t := by rw [hp]; simp
  rw [e, flat_append, List.length_append]; exact ho
 ·rcases hob with h1 | h1
  ·rw [h1] at e; exact h.ob g e
  ·rw [h1] at e; cases e; have := h.hz; omega
 ·exact h.B.trans (hb.mono (by have := h.wX; have := h.XB; omega))
theorem take_flat (ps : List Sc.Part) (f : Sc.Part → List Hp.Wd) (k : Nat) : ((ps.take k).flatMap f).length ≤ (ps.flatMap f).length := by
 conv => rhs; rw [← List.take_append_drop k ps, List.flatMap_append, List.length_append]
 omega
theorem line_packet (s : StV) (w : World) (ht : ST w) (hin : Inner (fun _ => True) w s) (p16 : s.t.pf.addr.length = 16) (hsb : SB s.t) (hi : s.t.is = true) (x : Hp.Wd) (hx : Sc.wordOf s.t = some x) (hj : (Hp.join (wsA s.t x)).length ≤ 65536) (hxl : x.length ≤ 1000) :
  Calls Tryz.prog 14 #[.agg (stepA s)] w fun e w' => e = .returned (.string (str (lineA s.t))) ∧ Below w.heap.size w w' := by
 have HX := qh hx
 have HT := qh ht
 have HIN := qh hin
 have HSB := qh hsb
 have HS0 : Hid (∀ w1, w1 = w.alloc (.cells (stepA s) 37) → StAt w1 w.heap.size s) := qh fun w1 h => by subst h; exact ⟨Blk.new _ _ _, p16⟩
 have HI0 : Hid (s.t.is = true ∧ s.t.is = true) := qh ⟨hi, hi⟩
 cases hm : s.t.mpls
 ·obtain rfl : Sc.wIp = x := by unfold Sc.wordOf at hx; rw [if_pos hi, hm] at hx; simpa using hx
  have HM := qh hm
  clear hx ht hin hsb hi hm p16
  have HP := qh fun W => scr_parts Sc.wIp (by omega) W
  have hwl : (wsA s.t Sc.wIp).length ≤ 65537 := by have := words_le (wsA s.t Sc.wIp); omega
  have HJ : Hid (∀ W v, SlR W 1 encS v (wsA s.t Sc.wIp) → Calls Tryz.prog 34 #[v, .string ⟨#[32]⟩] W fun e w' => e = .returned (.string (str (Hp.join (wsA s.t Sc.wIp)))) ∧ Below W.heap.size W w') := qh fun W v hv => joinS_any _ (by omega) (by omega) v W hv
  have HON : Hid (∀ W, ST W → Calls Tryz.prog 10 #[.string (str (Hp.join (wsA s.t Sc.wIp)))] W (RetOne (Sc.oneR (Hp.join (wsA s.t Sc.wIp))) W)) := qh fun W h => scr_One _ hj W h
  have HLA : Hid (lineA s.t = if Sc.oneR (Hp.join (wsA s.t Sc.wIp)) = some s.t then Hp.join (wsA s.t Sc.wIp) else []) := qh (by unfold lineA textA; rw [HX.out])
  have HWS : Hid (wsA s.t Sc.wIp = Sc.wIp :: (Sc.partsOf Sc.wIp).flatMap fun p => shwA p s.t) := qh rfl
  have HPL : Hid ((Sc.partsOf Sc.wIp).length ≤ 3) := qh (parts_le Sc.wIp)
  have hfl : ∀ k, (((Sc.partsOf Sc.wIp).take k).flatMap (fun p => shwA p s.t)).length ≤ 65537 := fun k => by have := take_flat (Sc.partsOf Sc.wIp) (fun p => shwA p s.t) k; rw [HWS.out] at hwl; simp only [List.length_cons] at hwl; omega
  have HFL := qh hfl
  have HJ0 := qh hj
  clear hfl hwl HX hj hxl
  generalize Sc.partsOf Sc.wIp = ps at *
  generalize lineA s.t = ln at *
  generalize hoe : Sc.oneR (Hp.join (wsA s.t Sc.wIp)) = o at *
  have HOE := qh hoe
  clear hoe
  go_enter Tryz.func14, Tryz.ntmps14
  go_upto_region 4 with (refine wpList_box_as rfl _ (.tmp 0) (by rfl) (stepA s) (by rfl) ?_; intro w1 E1; have HS1 := qh (HS0.out w1 E1); have HB1 : Hid (Below w.heap.size w w1) := (by rw [E1]; exact qh (belowA w _)); clear E1; have HT1 := qh (HT.out.below HB1.out); have hz1 := HS1.out.lt; have cs0 := HS1.out.c0; have cs34 := HS1.out.c34; have cs1 := HS1.out.c1; rw [HI0.out.1] at cs0; rw [HM.out] at cs34)
  refine wp_region_lit ?_
  iterate 11 go_step
  generalize hA : (Act.mk _ _ : Act) = A
  rename_i K hK
  refine hK A w1 ?_
  clear hK K
  iterate 10 (refine wpList_offS (by rw [← hA]; kernel_rfl) (by rw [← hA]; kernel_rfl) ?_)
  subst hA
  go_wp2_with fail
  have HI2 := qh (HIN.out.bd.low HB1.out (Nat.le_refl _))
  have HO2 := qh (owns_lit w1 9 #[.string (str Sc.wIp)] 1 rfl (by omega))
  have hb2 := belowA w1 (.cells #[.string (str Sc.wIp)] 9)
  have HB2 := qh hb2
  refine (HP.out _).mono ?_
  rintro e w3 ⟨v3, rfl, hb3, hp3⟩
  have hz3 := hb3.size
  have HB3 : Hid (Below w1.heap.size w1 w3) := qh (HB2.out.trans (hb3.mono (by simp)))
  have HL3 : Hid (LnS w w.heap.size w1.heap.size (w1.heap.size + 1) w3.heap.size ps s Sc.wIp 0 (.slice (some ⟨w1.heap.size, 0, none⟩) 1 1) v3 w3) := qh ⟨HS1.out.next HB3.out, HI2.out.low HB3.out (Nat.le_of_lt hz1), owns_below HO2.out hb3 (Nat.le_refl _), (fun g e => by simp [Value.ownBlock] at e; omega), PIn.of (by simpa using hp3), HB1.out.trans (HB3.out.mono HB1.out.size), HT.out, Nat.le_refl _, ⟨by omega, by simpa using hz3⟩, hz1, Nat.le_refl _⟩
  clear hb3 hp3 hb2
  obtain ⟨rows, hpl, p5, c5, rfl, -⟩ := HL3.out.P
  have hlr := hpl.len
  have hn5 : rows.length ≤ 3 := by rw [hlr]; exact HPL.out
  clear hpl cs0 cs34 cs1
  go_wp2_with fail
  rw [hlr] at HL3
  clear hlr hn5
  go_loopw [4, 6, 48] (fun vl _ vi wr => ∃ (k : Nat), vi = .int .i64 k ∧ k ≤ ps.length ∧ Hid (LnS w w.heap.size w1.heap.size (w1.heap.size + 1) w3.heap.size ps s Sc.wIp k vl (.slice p5 ps.length c5) wr)) (fun _ _ vi _ => ps.length - (intOf vi).toNat)
  case atStart => exact ⟨0, rfl, Nat.zero_le _, HL3⟩
  case round =>
   obtain ⟨k, rfl, hk, HU⟩ := hrel
   have hps := HPL.out
   have hwr := HU.out.B.size
   have hbz := HU.out.bz
   have hhz := HU.out.hz
   by_cases hlt : k < ps.length
   ·obtain ⟨pk, hpk⟩ : ∃ p, ps[k]? = some p := ⟨_, List.getElem?_eq_getElem hlt⟩
    obtain ⟨rows, hpl, hsl⟩ := HU.out.P
    obtain ⟨p6, c6, hvv, q1, q2, hR, -⟩ := hsl
    have hlr : rows.length = ps.length := hpl.len
    have hrk : k < rows.length := by omega
    obtain ⟨b6, o6, hb6, hbl6, hc⟩ := hR.at hrk
    injection hvv with e1 e2 e3
    subst e1 e3 hb6
    clear e2
    obtain ⟨vs, vr, hvr⟩ : ∃ vs vr, rows[k] = (vs, vr) := ⟨_, _, rfl⟩
    rw [hvr] at hc
    have hc0 := hc 0 vs rfl
    have hc1 := hc 1 vr rfl
    simp only [Nat.add_zero] at hc0
    have hpv := hpl.get hpk (by rw [List.getElem?_eq_getElem hrk, hvr])
    obtain ⟨f, g, cf, cg, rfl, rfl, ef, eg, hsh, hrd⟩ := hpv
    have hent := ef
    unfold Ent at hent
    have HTK : Hid (ps.take (k + 1) = ps.take k ++ [pk]) := qh (by obtain ⟨h8, h9⟩ := List.getElem?_eq_some_iff.1 hpk; rw [List.take_succ_eq_append_getElem hlt, h9])
    have HBX : Hid (Below wr.heap.size wr (wr.alloc (.cells #[.func (.func f) #[] cf, .func (.func g) #[] cg] 88))) := qh (belowA wr _)
    have HU2 := qh (HU.out.below HBX.out)
    have HSH := qh (hsh (wr.alloc (.cells #[.func (.func f) #[] cf, .func (.func g) #[] cg] 88)) w.heap.size s (Agree.of_below HBX.out hhz) (by simp; omega) (HT.out.below HU2.out.B) HU2.out.S (HU2.out.I.imp fun _ _ => trivial) HSB.out)
    have hf1 := HFL.out (k + 1)
    rw [HTK.out, List.flatMap_append, List.length_append] at hf1
    simp only [List.flatMap_cons, List.flatMap_nil, List.append_nil] at hf1
    clear hc hpl hR hsh hrd hpk hvr ef eg
    go_wp2_with fail
    refine HSH.out.mono ?_
    rintro e w7 ⟨v7, rfl, hv7, hb7⟩
    have HU7 := qh (HU2.out.below hb7)
    obtain ⟨p7, c7, rfl, z1, z2, hr7⟩ := hv7
    have HR7 := qh hr7
    have hbz7 := HU7.out.bz
    have hhz7 := HU7.out.hz
    have HAPP := qh fun v' w' => HU7.out.app (v' := v') (w' := w') HTK.out
    have HO7 := qh HU7.out.own
    clear hb7 hr7 HSH
    simp only [List.length_cons] at HO7
    generalize shwA pk s.t = sw at *
    go_wp2_with (at_builtin; go_loud (refine wpList_app_sl elemS rfl (.tmp 52) (.tmp 55) rfl w1.heap.size _ _ _ rfl HO7.out encS encS_len p7 c7 sw rfl HR7.out encS_one (by omega) (by omega) ?_; intro v8 w8 hown8 hgr8 hob8 hb8; have HN8 := qh (HAPP.out _ _ hown8 hgr8 hob8 hb8); clear hown8 hgr8 hob8 hb8))
    exact ⟨⟨k + 1, by go_num, by omega, HN8⟩, by simp [intOf]; omega⟩
   ·obtain rfl : k = ps.length := by omega
    have HV9 : Hid (SlR wr 1 encS u4 (wsA s.t Sc.wIp)) := qh (by
     have h := SlR.of_owns encS_len HU.out.own
     rw [List.take_length, ← HWS.out] at h
     exact h)
    obtain ⟨p9, c9, rfl, -, -, -⟩ := HV9.out
    have HSP := qh HU.out.S
    have HBP := qh HU.out.B
    have HIP := qh (HU.out.I.imp (r := fun _ => True) fun _ _ => trivial)
    go_wp2_with fail
    refine (HJ.out _ _ HV9.out).mono ?_
    rintro e w9 ⟨rfl, hb9⟩
    have HB9 := qh (HBP.out.trans (hb9.mono HBP.out.size))
    have HS9 := qh (HSP.out.next hb9)
    have HI9 := qh (HIP.out.below hb9 (Nat.le_refl _))
    clear hb9
    go_wp2_with fail
    refine (HON.out _ (HT.out.below HB9.out)).mono ?_
    rintro e w10 ⟨s', rfl, hst, hp16, hi', hb10⟩
    have HB10 := qh (HB9.out.trans (hb10.mono HB9.out.size))
    have HS10 := qh (HS9.out.next hb10)
    have HI10 := qh (HI9.out.below hb10 (Nat.le_refl _))
    have HI11 : Hid (Inner (fun _ => True) w10 s') := qh (hi'.imp fun _ _ => trivial)
    have HST := qh hst
    have HP16 := qh hp16
    have HF12 : Hid (∀ w11 w12, w11 = w10.alloc (.cells (stepA (sv Sc.z)) 37) → w12 = w11.setRow w10.heap.size (stepA s') → Blk w12 w10.heap.size 37 (stepA s') ∧ StAt w12 w.heap.size s ∧ Inner (fun _ => True) w12 s ∧ Inner (fun _ => True) w12 s' ∧ Below w.heap.size w w12) := qh fun w11 w12 h1 h2 => by
     subst h1
     rw [World.setRow_alloc_new] at h2
     subst h2
     exact ⟨Blk.new _ _ _, HS10.out.alloc _, HI10.out.below (belowA _ _) (Nat.le_refl _), HI11.out.below (belowA _ _) (Nat.le_refl _), HB10.out.alloc HB10.out.size _⟩
    clear hst hp16 hi' hb10
    cases o with
    | none =>
     have HL : Hid (ln = []) := qh (by rw [HLA.out, if_neg (by simp)])
     go_wp2_with (first
      | (refine wpList_alloc_as rfl 37 (by rfl) _ zeroSt ?_; intro w11 hw11; have HE11 := qh hw11; have HX11 : Hid (Blk w11 w10.heap.size 37 (stepA (sv Sc.z))) := (by rw [hw11]; exact qh (Blk.new _ _ _)); clear hw11)
      | (refine wpList_store_row_as rfl 37 (.tmp 8) (.tmp 63) (by rfl) w10.heap.size (stepA s') (by rfl) (by rfl) _ _ HX11.out (by rw [stepA_size]; exact infoSt) (by rw [stepA_size, stepA_size]) HI11.out.one ?_; intro w12 hw12; have H12 := qh (HF12.out w11 w12 HE11.out hw12); clear hw12))
     go_ret
     exact ⟨by rw [HL.out]; rfl, H12.out.2.2.2.2⟩
    | some y =>
     have HYS : Hid (s'.t = y) := qh HST.out
     have HOK : Hid (∀ W, StAt W w.heap.size s → Inner (fun _ => True) W s → Inner (fun _ => True) W s' → Calls Tryz.prog 35 #[.agg (stepA s), .agg (stepA s')] W fun e w' => e = .returned (.bool (decide (s.t = s'.t))) ∧ Below W.heap.size W w') := qh fun W h1 h2 h3 => by
      have hb := HSB.out
      exact scr_same s s' W ⟨h2, h1.p16, by have := hb.hop.n1; omega, by have := hb.hop.n2; omega, by have := hb.wl; omega, by have := hb.bl; omega⟩ (okOne (by rw [HOE.out, HYS.out]) HJ0.out HP16.out h3)
     by_cases hss : s.t = s'.t
     ·have HL : Hid (ln = Hp.join (wsA s.t Sc.wIp)) := qh (by rw [HLA.out, if_pos (by rw [hss, HYS.out])])
      rw [decide_eq_true hss] at HOK
      clear hss
      go_wp2_with (first
      | (refine wpList_alloc_as rfl 37 (by rfl) _ zeroSt ?_; intro w11 hw11; have HE11 := qh hw11; have HX11 : Hid (Blk w11 w10.heap.size 37 (stepA (sv Sc.z))) := (by rw [hw11]; exact qh (Blk.new _ _ _)); clear hw11)
      | (refine wpList_store_row_as rfl 37 (.tmp 8) (.tmp 63) (by rfl) w10.heap.size (stepA s') (by rfl) (by rfl) _ _ HX11.out (by rw [stepA_size]; exact infoSt) (by rw [stepA_size, stepA_size]) HI11.out.one ?_; intro w12 hw12; have H12 := qh (HF12.out w11 w12 HE11.out hw12); clear hw12)
      | (refine wpList_load_want (by rfl) 37 (.tmp 1) (by rfl) w.heap.size (by rfl) _ (stepA s) (0, 0) _ H12.out.2.1.b Tryz.underlying37 rfl (by rw [stepA_size]; exact infoSt) ?_)
      | (refine wpList_load_want (by rfl) 37 (.tmp 8) (by rfl) w10.heap.size (by rfl) _ (stepA s') (0, 0) _ H12.out.1 Tryz.underlying37 rfl (by rw [stepA_size]; exact infoSt) ?_))
      refine (HOK.out _ H12.out.2.1 H12.out.2.2.1 H12.out.2.2.2.1).mono ?_
      rintro e w13 ⟨rfl, hb13⟩
      have HB13 := qh (H12.out.2.2.2.2.trans (hb13.mono H12.out.2.2.2.2.size))
      clear hb13
      go_wp2_with fail
      go_ret
      exact ⟨by rw [HL.out]; rfl, HB13.out⟩
     ·have HL : Hid (ln = []) := qh (by rw [HLA.out, if_neg (fun h => hss (by cases h; exact HYS.out.symm))])
      rw [decide_eq_false hss] at HOK
      clear hss
      go_wp2_with (first
      | (refine wpList_alloc_as rfl 37 (by rfl) _ zeroSt ?_; intro w11 hw11; have HE11 := qh hw11; have HX11 : Hid (Blk w11 w10.heap.size 37 (stepA (sv Sc.z))) := (by rw [hw11]; exact qh (Blk.new _ _ _)); clear hw11)
      | (refine wpList_store_row_as rfl 37 (.tmp 8) (.tmp 63) (by rfl) w10.heap.size (stepA s') (by rfl) (by rfl) _ _ HX11.out (by rw [stepA_size]; exact infoSt) (by rw [stepA_size, stepA_size]) HI11.out.one ?_; intro w12 hw12; have H12 := qh (HF12.out w11 w12 HE11.out hw12); clear hw12)
      | (refine wpList_load_want (by rfl) 37 (.tmp 1) (by rfl) w.heap.size (by rfl) _ (stepA s) (0, 0) _ H12.out.2.1.b Tryz.underlying37 rfl (by rw [stepA_size]; exact infoSt) ?_)
      | (refine wpList_load_want (by rfl) 37 (.tmp 8) (by rfl) w10.heap.size (by rfl) _ (stepA s') (0, 0) _ H12.out.1 Tryz.underlying37 rfl (by rw [stepA_size]; exact infoSt) ?_))
      refine (HOK.out _ H12.out.2.1 H12.out.2.2.1 H12.out.2.2.2.1).mono ?_
      rintro e w13 ⟨rfl, hb13⟩
      have HB13 := qh (H12.out.2.2.2.2.trans (hb13.mono H12.out.2.2.2.2.size))
      clear hb13
      go_wp2_with fail
      go_ret
      exact ⟨by rw [HL.out]; rfl, HB13.out⟩
 ·obtain rfl : Sc.wMpls = x := by unfold Sc.wordOf at hx; rw [if_pos hi, hm] at hx; simpa using hx
  have HM := qh hm
  clear hx ht hin hsb hi hm p16
  have HP := qh fun W => scr_parts Sc.wMpls (by omega) W
  have hwl : (wsA s.t Sc.wMpls).length ≤ 65537 := by have := words_le (wsA s.t Sc.wMpls); omega
  have HJ : Hid (∀ W v, SlR W 1 encS v (wsA s.t Sc.wMpls) → Calls Tryz.prog 34 #[v, .string ⟨#[32]⟩] W fun e w' => e = .returned (.string (str (Hp.join (wsA s.t Sc.wMpls)))) ∧ Below W.heap.size W w') := qh fun W v hv => joinS_any _ (by omega) (by omega) v W hv
  have HON : Hid (∀ W, ST W → Calls Tryz.prog 10 #[.string (str (Hp.join (wsA s.t Sc.wMpls)))] W (RetOne (Sc.oneR (Hp.join (wsA s.t Sc.wMpls))) W)) := qh fun W h => scr_One _ hj W h
  have HLA : Hid (lineA s.t = if Sc.oneR (Hp.join (wsA s.t Sc.wMpls)) = some s.t then Hp.join (wsA s.t Sc.wMpls) else []) := qh (by unfold lineA textA; rw [HX.out])
  have HWS : Hid (wsA s.t Sc.wMpls = Sc.wMpls :: (Sc.partsOf Sc.wMpls).flatMap fun p => shwA p s.t) := qh rfl
  have HPL : Hid ((Sc.partsOf Sc.wMpls).length ≤ 3) := qh (parts_le Sc.wMpls)
  have hfl : ∀ k, (((Sc.partsOf Sc.wMpls).take k).flatMap (fun p => shwA p s.t)).length ≤ 65537 := fun k => by have := take_flat (Sc.partsOf Sc.wMpls) (fun p => shwA p s.t) k; rw [HWS.out] at hwl; simp only [List.length_cons] at hwl; omega
  have HFL := qh hfl
  have HJ0 := qh hj
  clear hfl hwl HX hj hxl
  generalize Sc.partsOf Sc.wMpls = ps at *
  generalize lineA s.t = ln at *
  generalize hoe : Sc.oneR (Hp.join (wsA s.t Sc.wMpls)) = o at *
  have HOE := qh hoe
  clear hoe
  go_enter Tryz.func14, Tryz.ntmps14
  go_wp2_with (refine wpList_box_as rfl _ (.tmp 0) (by rfl) (stepA s) (by rfl) ?_; intro w1 E1; have HS1 := qh (HS0.out w1 E1); have HB1 : Hid (Below w.heap.size w w1) := (by rw [E1]; exact qh (belowA w _)); clear E1; have HT1 := qh (HT.out.below HB1.out); have hz1 := HS1.out.lt; have cs0 := HS1.out.c0; have cs34 := HS1.out.c34; have cs1 := HS1.out.c1; rw [HI0.out.1] at cs0; rw [HM.out] at cs34)
  have HI2 := qh (HIN.out.bd.low HB1.out (Nat.le_refl _))
  have HO2 := qh (owns_lit w1 9 #[.string (str Sc.wMpls)] 1 rfl (by omega))
  have hb2 := belowA w1 (.cells #[.string (str Sc.wMpls)] 9)
  have HB2 := qh hb2
  refine (HP.out _).mono ?_
  rintro e w3 ⟨v3, rfl, hb3, hp3⟩
  have hz3 := hb3.size
  have HB3 : Hid (Below w1.heap.size w1 w3) := qh (HB2.out.trans (hb3.mono (by simp)))
  have HL3 : Hid (LnS w w.heap.size w1.heap.size (w1.heap.size + 1) w3.heap.size ps s Sc.wMpls 0 (.slice (some ⟨w1.heap.size, 0, none⟩) 1 1) v3 w3) := qh ⟨HS1.out.next HB3.out, HI2.out.low HB3.out (Nat.le_of_lt hz1), owns_below HO2.out hb3 (Nat.le_refl _), (fun g e => by simp [Value.ownBlock] at e; omega), PIn.of (by simpa using hp3), HB1.out.trans (HB3.out.mono HB1.out.size), HT.out, Nat.le_refl _, ⟨by omega, by simpa using hz3⟩, hz1, Nat.le_refl _⟩
  clear hb3 hp3 hb2
  obtain ⟨rows, hpl, p5, c5, rfl, -⟩ := HL3.out.P
  have hlr := hpl.len
  have hn5 : rows.length ≤ 3 := by rw [hlr]; exact HPL.out
  clear hpl cs0 cs34 cs1
  go_wp2_with fail
  rw [hlr] at HL3
  clear hlr hn5
  go_loopw [4, 6, 48] (fun vl _ vi wr => ∃ (k : Nat), vi = .int .i64 k ∧ k ≤ ps.length ∧ Hid (LnS w w.heap.size w1.heap.size (w1.heap.size + 1) w3.heap.size ps s Sc.wMpls k vl (.slice p5 ps.length c5) wr)) (fun _ _ vi _ => ps.length - (intOf vi).toNat)
  case atStart => exact ⟨0, rfl, Nat.zero_le _, HL3⟩
  case round =>
   obtain ⟨k, rfl, hk, HU⟩ := hrel
   have hps := HPL.out
   have hwr := HU.out.B.size
   have hbz := HU.out.bz
   have hhz := HU.out.hz
   by_cases hlt : k < ps.length
   ·obtain ⟨pk, hpk⟩ : ∃ p, ps[k]? = some p := ⟨_, List.getElem?_eq_getElem hlt⟩
    obtain ⟨rows, hpl, hsl⟩ := HU.out.P
    obtain ⟨p6, c6, hvv, q1, q2, hR, -⟩ := hsl
    have hlr : rows.length = ps.length := hpl.len
    have hrk : k < rows.length := by omega
    obtain ⟨b6, o6, hb6, hbl6, hc⟩ := hR.at hrk
    injection hvv with e1 e2 e3
    subst e1 e3 hb6
    clear e2
    obtain ⟨vs, vr, hvr⟩ : ∃ vs vr, rows[k] = (vs, vr) := ⟨_, _, rfl⟩
    rw [hvr] at hc
    have hc0 := hc 0 vs rfl
    have hc1 := hc 1 vr rfl
    simp only [Nat.add_zero] at hc0
    have hpv := hpl.get hpk (by rw [List.getElem?_eq_getElem hrk, hvr])
    obtain ⟨f, g, cf, cg, rfl, rfl, ef, eg, hsh, hrd⟩ := hpv
    have hent := ef
    unfold Ent at hent
    have HTK : Hid (ps.take (k + 1) = ps.take k ++ [pk]) := qh (by obtain ⟨h8, h9⟩ := List.getElem?_eq_some_iff.1 hpk; rw [List.take_succ_eq_append_getElem hlt, h9])
    have HBX : Hid (Below wr.heap.size wr (wr.alloc (.cells #[.func (.func f) #[] cf, .func (.func g) #[] cg] 88))) := qh (belowA wr _)
    have HU2 := qh (HU.out.below HBX.out)
    have HSH := qh (hsh (wr.alloc (.cells #[.func (.func f) #[] cf, .func (.func g) #[] cg] 88)) w.heap.size s (Agree.of_below HBX.out hhz) (by simp; omega) (HT.out.below HU2.out.B) HU2.out.S (HU2.out.I.imp fun _ _ => trivial) HSB.out)
    have hf1 := HFL.out (k + 1)
    rw [HTK.out, List.flatMap_append, List.length_append] at hf1
    simp only [List.flatMap_cons, List.flatMap_nil, List.append_nil] at hf1
    clear hc hpl hR hsh hrd hpk hvr ef eg
    go_wp2_with fail
    refine HSH.out.mono ?_
    rintro e w7 ⟨v7, rfl, hv7, hb7⟩
    have HU7 := qh (HU2.out.below hb7)
    obtain ⟨p7, c7, rfl, z1, z2, hr7⟩ := hv7
    have HR7 := qh hr7
    have hbz7 := HU7.out.bz
    have hhz7 := HU7.out.hz
    have HAPP := qh fun v' w' => HU7.out.app (v' := v') (w' := w') HTK.out
    have HO7 := qh HU7.out.own
    clear hb7 hr7 HSH
    simp only [List.length_cons] at HO7
    generalize shwA pk s.t = sw at *
    go_wp2_with (at_builtin; go_loud (refine wpList_app_sl elemS rfl (.tmp 52) (.tmp 55) rfl w1.heap.size _ _ _ rfl HO7.out encS encS_len p7 c7 sw rfl HR7.out encS_one (by omega) (by omega) ?_; intro v8 w8 hown8 hgr8 hob8 hb8; have HN8 := qh (HAPP.out _ _ hown8 hgr8 hob8 hb8); clear hown8 hgr8 hob8 hb8))
    exact ⟨⟨k + 1, by go_num, by omega, HN8⟩, by simp [intOf]; omega⟩
   ·obtain rfl : k = ps.length := by omega
    have HV9 : Hid (SlR wr 1 encS u4 (wsA s.t Sc.wMpls)) := qh (by
     have h := SlR.of_owns encS_len HU.out.own
     rw [List.take_length, ← HWS.out] at h
     exact h)
    obtain ⟨p9, c9, rfl, -, -, -⟩ := HV9.out
    have HSP := qh HU.out.S
    have HBP := qh HU.out.B
    have HIP := qh (HU.out.I.imp (r := fun _ => True) fun _ _ => trivial)
    go_wp2_with fail
    refine (HJ.out _ _ HV9.out).mono ?_
    rintro e w9 ⟨rfl, hb9⟩
    have HB9 := qh (HBP.out.trans (hb9.mono HBP.out.size))
    have HS9 := qh (HSP.out.next hb9)
    have HI9 := qh (HIP.out.below hb9 (Nat.le_refl _))
    clear hb9
    go_wp2_with fail
    refine (HON.out _ (HT.out.below HB9.out)).mono ?_
    rintro e w10 ⟨s', rfl, hst, hp16, hi', hb10⟩
    have HB10 := qh (HB9.out.trans (hb10.mono HB9.out.size))
    have HS10 := qh (HS9.out.next hb10)
    have HI10 := qh (HI9.out.below hb10 (Nat.le_refl _))
    have HI11 : Hid (Inner (fun _ => True) w10 s') := qh (hi'.imp fun _ _ => trivial)
    have HST := qh hst
    have HP16 := qh hp16
    have HF12 : Hid (∀ w11 w12, w11 = w10.alloc (.cells (stepA (sv Sc.z)) 37) → w12 = w11.setRow w10.heap.size (stepA s') → Blk w12 w10.heap.size 37 (stepA s') ∧ StAt w12 w.heap.size s ∧ Inner (fun _ => True) w12 s ∧ Inner (fun _ => True) w12 s' ∧ Below w.heap.size w w12) := qh fun w11 w12 h1 h2 => by
     subst h1
     rw [World.setRow_alloc_new] at h2
     subst h2
     exact ⟨Blk.new _ _ _, HS10.out.alloc _, HI10.out.below (belowA _ _) (Nat.le_refl _), HI11.out.below (belowA _ _) (Nat.le_refl _), HB10.out.alloc HB10.out.size _⟩
    clear hst hp16 hi' hb10
    cases o with
    | none =>
     have HL : Hid (ln = []) := qh (by rw [HLA.out, if_neg (by simp)])
     go_wp2_with (first
      | (refine wpList_alloc_as rfl 37 (by rfl) _ zeroSt ?_; intro w11 hw11; have HE11 := qh hw11; have HX11 : Hid (Blk w11 w10.heap.size 37 (stepA (sv Sc.z))) := (by rw [hw11]; exact qh (Blk.new _ _ _)); clear hw11)
      | (refine wpList_store_row_as rfl 37 (.tmp 8) (.tmp 63) (by rfl) w10.heap.size (stepA s') (by rfl) (by rfl) _ _ HX11.out (by rw [stepA_size]; exact infoSt) (by rw [stepA_size, stepA_size]) HI11.out.one ?_; intro w12 hw12; have H12 := qh (HF12.out w11 w12 HE11.out hw12); clear hw12))
     go_ret
     exact ⟨by rw [HL.out]; rfl, H12.out.2.2.2.2⟩
    | some y =>
     have HYS : Hid (s'.t = y) := qh HST.out
     have HOK : Hid (∀ W, StAt W w.heap.size s → Inner (fun _ => True) W s → Inner (fun _ => True) W s' → Calls Tryz.prog 35 #[.agg (stepA s), .agg (stepA s')] W fun e w' => e = .returned (.bool (decide (s.t = s'.t))) ∧ Below W.heap.size W w') := qh fun W h1 h2 h3 => by
      have hb := HSB.out
      exact scr_same s s' W ⟨h2, h1.p16, by have := hb.hop.n1; omega, by have := hb.hop.n2; omega, by have := hb.wl; omega, by have := hb.bl; omega⟩ (okOne (by rw [HOE.out, HYS.out]) HJ0.out HP16.out h3)
     by_cases hss : s.t = s'.t
     ·have HL : Hid (ln = Hp.join (wsA s.t Sc.wMpls)) := qh (by rw [HLA.out, if_pos (by rw [hss, HYS.out])])
      rw [decide_eq_true hss] at HOK
      clear hss
      go_wp2_with (first
      | (refine wpList_alloc_as rfl 37 (by rfl) _ zeroSt ?_; intro w11 hw11; have HE11 := qh hw11; have HX11 : Hid (Blk w11 w10.heap.size 37 (stepA (sv Sc.z))) := (by rw [hw11]; exact qh (Blk.new _ _ _)); clear hw11)
      | (refine wpList_store_row_as rfl 37 (.tmp 8) (.tmp 63) (by rfl) w10.heap.size (stepA s') (by rfl) (by rfl) _ _ HX11.out (by rw [stepA_size]; exact infoSt) (by rw [stepA_size, stepA_size]) HI11.out.one ?_; intro w12 hw12; have H12 := qh (HF12.out w11 w12 HE11.out hw12); clear hw12)
      | (refine wpList_load_want (by rfl) 37 (.tmp 1) (by rfl) w.heap.size (by rfl) _ (stepA s) (0, 0) _ H12.out.2.1.b Tryz.underlying37 rfl (by rw [stepA_size]; exact infoSt) ?_)
      | (refine wpList_load_want (by rfl) 37 (.tmp 8) (by rfl) w10.heap.size (by rfl) _ (stepA s') (0, 0) _ H12.out.1 Tryz.underlying37 rfl (by rw [stepA_size]; exact infoSt) ?_))
      refine (HOK.out _ H12.out.2.1 H12.out.2.2.1 H12.out.2.2.2.1).mono ?_
      rintro e w13 ⟨rfl, hb13⟩
      have HB13 := qh (H12.out.2.2.2.2.trans (hb13.mono H12.out.2.2.2.2.size))
      clear hb13
      go_wp2_with fail
      go_ret
      exact ⟨by rw [HL.out]; rfl, HB13.out⟩
     ·have HL : Hid (ln = []) := qh (by rw [HLA.out, if_neg (fun h => hss (by cases h; exact HYS.out.symm))])
      rw [decide_eq_false hss] at HOK
      clear hss
      go_wp2_with (first
      | (refine wpList_alloc_as rfl 37 (by rfl) _ zeroSt ?_; intro w11 hw11; have HE11 := qh hw11; have HX11 : Hid (Blk w11 w10.heap.size 37 (stepA (sv Sc.z))) := (by rw [hw11]; exact qh (Blk.new _ _ _)); clear hw11)
      | (refine wpList_store_row_as rfl 37 (.tmp 8) (.tmp 63) (by rfl) w10.heap.size (stepA s') (by rfl) (by rfl) _ _ HX11.out (by rw [stepA_size]; exact infoSt) (by rw [stepA_size, stepA_size]) HI11.out.one ?_; intro w12 hw12; have H12 := qh (HF12.out w11 w12 HE11.out hw12); clear hw12)
      | (refine wpList_load_want (by rfl) 37 (.tmp 1) (by rfl) w.heap.size (by rfl) _ (stepA s) (0, 0) _ H12.out.2.1.b Tryz.underlying37 rfl (by rw [stepA_size]; exact infoSt) ?_)
      | (refine wpList_load_want (by rfl) 37 (.tmp 8) (by rfl) w10.heap.size (by rfl) _ (stepA s') (0, 0) _ H12.out.1 Tryz.underlying37 rfl (by rw [stepA_size]; exact infoSt) ?_))
      refine (HOK.out _ H12.out.2.1 H12.out.2.2.1 H12.out.2.2.2.1).mono ?_
      rintro e w13 ⟨rfl, hb13⟩
      have HB13 := qh (H12.out.2.2.2.2.trans (hb13.mono H12.out.2.2.2.2.size))
      clear hb13
      go_wp2_with fail
      go_ret
      exact ⟨by rw [HL.out]; rfl, HB13.out⟩
theorem itoa_leI {n : Int} (h : I64 n) : (Lib.itoa n).length ≤ 30 := by have := Lib.itoa_length_le n h.1 h.2; omega
end Go.Proofs.YtdbgeobolongmaaGreatDoor
