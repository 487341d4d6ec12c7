/- Part of the proof: contracts of the functions that the statements of layer 32 reach. -/
import Derived.Test.YtdbgeobolongmaaGreatDoorV27
set_option linter.unusedVariables false
set_option linter.unusedSimpArgs false
set_option maxRecDepth 100000
set_option maxHeartbeats 4000000
namespace Go.Proofs.YtdbgeobolongmaaGreatDoor
open Go.RowKit Go.Shelf Go.Proofs Go.OctetPlain Go.PrefixPlain
theorem SlP.bd {q : Nat → Prop} {α : Type} {enc : α → List Value} {w : World} {k : Nat} {v : Value} {xs : List α} (h : SlP q w k enc v xs) : SlP (fun b => q b ∧ b < w.heap.size) w k enc v xs := by
 obtain ⟨p, c, h1, h2, h3, h4, h5⟩ := h
 exact ⟨p, c, h1, h2, h3, h4, fun a ha hn => ⟨h5 a ha hn, (h4.2 a ha hn).2.1⟩⟩
def RetOne (o : Option Sc.Stp) (W : World) (e : Ending) (W' : World) : Prop := ∃ s', e = .returned (.tuple #[.agg (stepA s'), .bool o.isSome]) ∧ s'.t = o.getD Sc.z ∧ s'.t.pf.addr.length = 16 ∧ Inner (fun b => W.heap.size ≤ b) W' s' ∧ Below W.heap.size W W'
def sv (t : Sc.Stp) : StV := ⟨t, .slice none 0 0, .slice none 0 0, .slice none 0 0, .slice none 0 0⟩
theorem inner_sv {q : Nat → Prop} {w : World} {t : Sc.Stp} (h1 : t.hop = Sc.hop0) (h2 : t.ways = []) (h3 : t.bytes = []) : Inner q w (sv t) := ⟨by show SlP q w 1 encI _ t.hop.labels; rw [h1]; exact SlP.nil _ _ _, by show SlP q w 1 encI _ t.hop.repair; rw [h1]; exact SlP.nil _ _ _, by show SlP q w 2 encWy _ t.ways; rw [h2]; exact SlP.nil _ _ _, by show SlP q w 1 encB _ t.bytes; rw [h3]; exact SlP.nil _ _ _⟩
theorem infoSt : (Tryz.prog.info? 37).map (·.size) = some 36 := by kernel_rfl
theorem stepA_one {s : StV} (h1 : s.vl.oneCell' = true) (h2 : s.vr.oneCell' = true) (h3 : s.vw.oneCell' = true) (h4 : s.vb.oneCell' = true) : (stepA s).all (·.oneCell') = true := by
 refine all_oneCell_toArray fun v hv => ?_
 simp only [stepL, preL, pfL, hopL, postL, cellsB, List.cons_append, List.nil_append, List.append_assoc, List.mem_cons, List.mem_append, List.mem_map, List.not_mem_nil, or_false] at hv
 rcases hv with rfl | rfl | rfl | rfl | rfl | rfl | rfl | rfl | ⟨c, -, rfl⟩ | rfl | rfl | rfl | rfl | rfl | rfl | rfl | rfl | rfl | rfl | rfl | rfl
 all_goals first | rfl | assumption
theorem SlP.one {q : Nat → Prop} {α : Type} {enc : α → List Value} {w : World} {k : Nat} {v : Value} {xs : List α} (h : SlP q w k enc v xs) : v.oneCell' = true := by
 obtain ⟨p, c, rfl, -⟩ := h; rfl
theorem Inner.one {q : Nat → Prop} {w : World} {s : StV} (h : Inner q w s) : (stepA s).all (·.oneCell') = true := stepA_one h.l.one h.r.one h.ws.one h.b.one
theorem parts_le (x : Hp.Wd) : (Sc.partsOf x).length ≤ 3 := by
 by_cases h : Sc.partsOf x = []
 ·rw [h]; decide
 ·rcases Sc.parts_word h with (rfl | rfl) | ⟨h1, h2, h3⟩
  ·decide
  ·decide
  ·unfold Sc.partsOf
   rw [if_neg (by rintro (e | e); exact h1 e; exact h2 e)]
   have : ∀ k, k < 16 → (Sc.partsK.getD k []).length ≤ 3 := by decide
   exact this _ h3
theorem zeroSt (w : World) : (zeroValue 37).run Tryz.prog w = .ok (.agg (stepA (sv Sc.z))) w := by kernel_rfl
def NX (w : World) (X : Nat) (b : Nat) : Prop := b ≠ X ∧ w.heap.size < b
structure OnS (w : World) (X lo : Nat) (ps : List Sc.Part) (z : Option (Sc.Stp × List Hp.Wd)) (k : Nat) (s : StV) (left : List Hp.Wd) (vl vk : Value) (wr : World) : Prop where
 S : StAt wr X s
 I : Inner (NX w X) wr s
 V : SlP (NX w X) wr 1 encS vl left
 W : .W ∈ ps.drop k → s.t.ways = [] ∧ s.vw = .slice none 0 0
 F : Fine8 left
 eq : z = Sc.reads (ps.drop k) s.t left
 P : PartsAre lo wr vk ps
 B : Below w.heap.size w wr
 R : Blk wr w.heap.size 37 (stepA (sv Sc.z))
 XL : X < lo
 XR : w.heap.size < X
 T : ST w
theorem OnS.below {w wr w' : World} {X lo k : Nat} {ps : List Sc.Part} {z : Option (Sc.Stp × List Hp.Wd)} {s : StV} {left : List Hp.Wd} {vl vk : Value} (h : OnS w X lo ps z k s left vl vk wr) (hb : Below wr.heap.size wr w') : OnS w X lo ps z k s left vl vk w' :=
 ⟨h.S.next hb, h.I.below hb (Nat.le_refl _), h.V.below hb (Nat.le_refl _), h.W, h.F, h.eq, h.P.below hb, h.B.trans (hb.mono h.B.size), h.R.below hb h.R.lt, h.XL, h.XR, h.T⟩
theorem Inner.setRowR {w wr : World} {X : Nat} {s : StV} (h : Inner (NX w X) wr s) (cs : Array Value) : Inner (NX w X) (wr.setRow w.heap.size cs) s :=
 h.grown (grown_setRow _ _ _) fun b hb => by have := hb.2; simp; omega
theorem OnS.next {w wr w' : World} {X lo k : Nat} {ps : List Sc.Part} {z : Option (Sc.Stp × List Hp.Wd)} {s s' : StV} {left r : List Hp.Wd} {vl vk v' : Value} (h : OnS w X lo ps z k s left vl vk wr) (hnd : ps.Nodup) {p : Sc.Part} (hp : ps[k]? = some p)
  (hr : Sc.read p s.t left = some (s'.t, r)) (hg : wr.grownBy w' (some X)) (h1 : StAt w' X s') (h2 : Inner (NX w X) w' s') (h3 : SlP (NX w X) w' 1 encS v' r) (h4 : p ≠ .W → s'.vw = s.vw) : OnS w X lo ps z (k + 1) s' r v' vk w' := by
 obtain ⟨hk, hpk⟩ := List.getElem?_eq_some_iff.1 hp
 have hd : ps.drop k = p :: ps.drop (k + 1) := by rw [List.drop_eq_getElem_cons hk, hpk]
 refine ⟨h1, h2, h3, fun hw => ?_, h.F.read hr, by rw [h.eq, hd, Sc.reads, hr], h.P.grown hg h.XL, h.B.trans (grown_Below hg h.B.size (by have := h.XR; omega)), h.R.grown hg (by have := h.XR; omega), h.XL, h.XR, h.T⟩
 have hn : p ≠ .W := fun e => by
  subst e
  have hnd2 : (ps.drop k).Nodup := hnd.sublist (List.drop_sublist _ _)
  rw [hd] at hnd2
  exact (List.nodup_cons.1 hnd2).1 hw
 obtain ⟨a, b⟩ := h.W (by rw [hd]; exact List.mem_cons_of_mem _ hw)
 exact ⟨by rw [read_ways hn hr]; exact a, by rw [h4 hn]; exact b⟩
theorem scr_One (l : List UInt8) (hl : l.length ≤ 65536) (w : World) (ht : ST w) :
  Calls Tryz.prog 10 #[.string (str l)] w (RetOne (Sc.oneR l) w) := by
 have HW := qh fun W => scr_words l (by omega) W
 have HF := qh (Fine8.spl hl)
 have HT := qh ht
 obtain ⟨x, r, hxr⟩ : ∃ x r, Hp.spl l = x :: r := by
  cases h : Hp.spl l with
  | nil => exact absurd h (Hp.spl_ne l)
  | cons x r => exact ⟨x, r, rfl⟩
 have HO : Hid (Sc.oneR l = match Sc.reads (Sc.partsOf x) (Sc.x0 x) r with | some (y, []) => if Sc.partsOf x = [] then none else some y | _ => none) := qh (by unfold Sc.oneR; rw [hxr]; rfl)
 rw [hxr] at HW HF
 generalize Sc.oneR l = o at *
 have hxl : x.length ≤ 65536 := HF.out.2.1 x List.mem_cons_self
 have HFR := qh HF.out.tail
 have hrl : r.length + 1 ≤ 1048576 := by have := HF.out.1; simpa using this
 have HP := qh fun W => scr_parts x (by omega) W
 have HI := qh fun W h => scr_index x W h
 have HND : Hid (Sc.partsOf x).Nodup := qh Sc.parts_good.1
 have HPL : Hid ((Sc.partsOf x).length ≤ 3) := qh (parts_le x)
 have HKM := qh (kind_max x)
 have harr : Tryz.prog.arrayLen 82 = 16 := by kernel_rfl
 obtain ⟨c1, c2, hcc, HX0⟩ : ∃ c1 c2 : Bool, (c1 = true ∧ c2 = false ∨ c1 = false ∧ c2 = true ∨ c1 = false ∧ c2 = false) ∧ Hid ((x == ([105, 112] : List UInt8)) = c1 ∧ (x == ([109, 112, 108, 115] : List UInt8)) = c2 ∧ Sc.x0 x = { Sc.z with is := c1 || c2, mpls := c2, kind := max (kindI x) 0 }) := by
  refine ⟨decide (x = Sc.wIp), decide (x = Sc.wMpls), ?_, qh ⟨?_, ?_, by rw [kind_max]; rfl⟩⟩
  ·by_cases h1 : x = Sc.wIp
   ·subst h1; decide
   ·by_cases h2 : x = Sc.wMpls
    ·subst h2; decide
    ·rw [decide_eq_false h1, decide_eq_false h2]; exact Or.inr (Or.inr ⟨rfl, rfl⟩)
  ·by_cases h : x = Sc.wIp
   ·rw [decide_eq_true h]; exact beq_iff_eq.2 h
   ·rw [decide_eq_false h]; exact beq_eq_false_iff_ne.2 h
  ·by_cases h : x = Sc.wMpls
   ·rw [decide_eq_true h]; exact beq_iff_eq.2 h
   ·rw [decide_eq_false h]; exact beq_eq_false_iff_ne.2 h
 obtain ⟨e1, e2, -⟩ := HX0.out
 have htl := str_tl
 have HX1 : Hid (Sc.x0 x = { Sc.z with is := c1 || c2, mpls := c2, kind := max (kindI x) 0 }) := qh HX0.out.2.2
 clear hxr ht hl HX0
 generalize Sc.partsOf x = ps at *
 generalize Sc.x0 x = t0 at *
 rcases hcc with ⟨rfl, rfl⟩ | ⟨rfl, rfl⟩ | ⟨rfl, rfl⟩
 ·
  go_enter Tryz.func10, Tryz.ntmps10
  go_wp2_with (refine wpList_alloc_as rfl _ rfl _ zeroSt ?_; intro wz hwz; have HRZ : Hid (Blk wz w.heap.size 37 (stepA (sv Sc.z))) := (by rw [hwz]; exact qh (Blk.new _ _ _)); have HBZ : Hid (Below w.heap.size w wz) := (by rw [hwz]; exact qh (belowA w _)); clear hwz)
  refine (HW.out _).mono ?_
  rintro e w1 ⟨v1, rfl, ho1, hb1⟩
  have hz1 := HRZ.out.lt
  have HR1 := qh (HRZ.out.below hb1 HRZ.out.lt)
  have HB1 := qh (HBZ.out.trans (hb1.mono HBZ.out.size))
  have HT1 := qh (HT.out.below HB1.out)
  have HV1 := qh (SlP.of_owns encS_len ho1)
  have hb1s := hb1.size
  obtain ⟨p1, k1, rfl⟩ := owns_form ho1
  obtain ⟨pp, cap, hvv, q1, q2, hR, hq⟩ := HV1.out
  cases hvv
  obtain ⟨b, off, rfl, hbl2, hc⟩ := hR.at (i := 0) (by simp)
  have hx := hc 0 (.string (str x)) rfl
  simp only [Nat.zero_mul, Nat.add_zero] at hx
  clear hR hq hc hb1
  go_wp2_with (first
   | (refine wpList_alloc_as rfl _ rfl _ zeroSt ?_; intro w2 hw2; have HX2 : Hid (Blk w2 w1.heap.size 37 (stepA (sv Sc.z))) := (by rw [hw2]; exact qh (Blk.new _ _ _)); have HB2 : Hid (Below w1.heap.size w1 w2) := (by rw [hw2]; exact qh (belowA w1 _)); have HZ2 : Hid (w2.heap.size = w1.heap.size + 1) := (by rw [hw2]; exact qh (by simp)); clear hw2)
   | ((refine wpList_store_row_as rfl _ (.tmp 6) (.tmp 23) rfl w1.heap.size (stepA (sv { Sc.z with is := true })) (by rfl) (by rfl) _ _ HX2.out (by rw [stepA_size]; exact infoSt) (by rw [stepA_size, stepA_size]) (inner_sv (q := fun _ => True) (w := w) rfl rfl rfl).one ?_; intro w3 hw3; have HX3 : Hid (Blk w3 w1.heap.size 37 (stepA (sv { Sc.z with is := true }))) := (by rw [hw3]; exact qh (HX2.out.setRow _)); have HB3 : Hid (Below w1.heap.size w1 w3) := (by rw [hw3]; exact qh (below_setRow HB2.out (Nat.le_refl _) _)); have HZ3 : Hid (w3.heap.size = w1.heap.size + 1) := (by rw [hw3]; exact qh (by unfold World.setRow; simp [HZ2.out])); clear hw3; have HS3 : Hid (StAt w3 w1.heap.size (sv { Sc.z with is := true })) := qh ⟨HX3.out, rfl⟩; have c34 := HS3.out.c34; have f34 := HS3.out.fz 34; have c1 := HS3.out.c1; have f1 := HS3.out.fz 1; simp only [sv, Sc.z] at c34 c1)))
  have HS4 : Hid (StAt (w3.setCell ⟨w1.heap.size, 34, none⟩ (.bool false)) w1.heap.size (sv { Sc.z with is := true, mpls := false })) := qh (HS3.out.setM false)
  have HB4 : Hid (Below w1.heap.size w1 (w3.setCell ⟨w1.heap.size, 34, none⟩ (.bool false))) := qh (HB3.out.setCell (Nat.le_refl _) _)
  refine (HI.out _ (HT1.out.below HB4.out)).mono ?_
  rintro e w4 ⟨rfl, rfl⟩
  have c1' := HS4.out.c1
  have f1' := HS4.out.fz 1
  go_wp2_with fail
  refine (HP.out _).mono ?_
  rintro e w5 ⟨v5, rfl, hb5, hp5⟩
  have HB5 : Hid (Below w1.heap.size w1 w5) := qh ((HB4.out.setCell (Nat.le_refl _) _).trans (hb5.mono (HB4.out.setCell (Nat.le_refl _) _).size))
  have HL5 : Hid (((w3.setCell ⟨w1.heap.size, 34, none⟩ (.bool false)).setCell ⟨w1.heap.size, 1, none⟩ (.int .i64 (max (kindI x) 0))).heap.size = w1.heap.size + 1) := qh (by rw [World.size_setCell, World.size_setCell]; exact HZ3.out)
  have HS5 : Hid (StAt w5 w1.heap.size (sv { Sc.z with is := true, mpls := false, kind := max (kindI x) 0 })) := qh ((HS4.out.setKind _).next hb5)
  have HP5 : Hid (PartsAre (w1.heap.size + 1) w5 v5 ps) := qh (by rw [HL5.out] at hp5; exact hp5)
  have HV5 : Hid (SlP (NX w w1.heap.size) w5 1 encS (.slice (some ⟨b, off, none⟩) (r.length + 1) k1) (x :: r)) := qh ((HV1.out.bd.below HB5.out (Nat.le_refl _)).imp fun b hb => ⟨Nat.ne_of_lt hb.2, by have := hb.1; omega⟩)
  have HB6 : Hid (Below w.heap.size w w5) := qh (HB1.out.trans (HB5.out.mono HB1.out.size))
  have HR5 := qh (HR1.out.below HB5.out HR1.out.lt)
  clear hb5 hp5 HL5 HX2 HX3 HS3 HS4 HB2 HB3 HB4 HZ2 HZ3 HV1 hx c34 f34 c1 f1 c1' f1'
  obtain ⟨rows, hpl, p5, c5, rfl, -⟩ := HP5.out
  have hlr := hpl.len
  have hn5 : rows.length ≤ 3 := by rw [hlr]; exact HPL.out
  clear hpl
  go_wp2_with (refine wpList_tail1 rfl 79 (.tmp 36) (by rfl) Tryz.underlying79 (fun w => by kernel_rfl) (v := .slice (some ⟨b, off, none⟩) (r.length + 1) k1) (by rfl) HV5.out ?_; intro v6 hv6; have HV6 := qh hv6; clear hv6)
  have HO0 : Hid (OnS w w1.heap.size (w1.heap.size + 1) ps (Sc.reads ps t0 r) 0 (sv { Sc.z with is := true, mpls := false, kind := max (kindI x) 0 }) r v6 (.slice p5 ps.length c5) w5) := qh ⟨HS5.out, inner_sv rfl rfl rfl, HV6.out, fun _ => ⟨rfl, rfl⟩, HFR.out, (by rw [List.drop_zero, HX1.out]; rfl), (by have := HP5.out; rw [hlr] at this; exact this), HB6.out, HR5.out, Nat.lt_succ_self _, Nat.lt_of_lt_of_le hz1 hb1s, HT.out⟩
  clear HS5 HP5 HV5 HV6 HB5 HB6 HR5 hlr hn5
  generalize Sc.reads ps t0 r = Z at *
  go_loopw [4, 9, 10, 11, 40] (fun vl _ _ _ vi wr => ∃ (k : Nat) (s : StV) (left : List Hp.Wd), vi = .int .i64 k ∧ k ≤ ps.length ∧ Hid (OnS w w1.heap.size (w1.heap.size + 1) ps Z k s left vl (.slice p5 ps.length c5) wr)) (fun _ _ _ _ vi _ => ps.length - (intOf vi).toNat)
  case atStart => exact ⟨0, _, r, rfl, Nat.zero_le _, HO0⟩
  case round =>
   obtain ⟨k, s, left, rfl, hk, HU⟩ := hrel
   have hps := HPL.out
   have hwr := HU.out.B.size
   have hXr := HU.out.S.lt
   by_cases hlt : k < ps.length
   ·obtain ⟨pk, hpk⟩ : ∃ p, ps[k]? = some p := ⟨_, List.getElem?_eq_getElem hlt⟩
    obtain ⟨rows, hpl, hsl⟩ := HU.out.P
    obtain ⟨p6, c6, hvv, q1, q2, hR, -⟩ := hsl
    have hlr : rows.length = ps.length := hpl.len
    have hrk : k < rows.length := by omega
    obtain ⟨b6, o6, hb6, hbl6, hc⟩ := hR.at hrk
    injection hvv with e1 e2 e3
    subst e1 e3 hb6
    clear e2
    obtain ⟨vs, vr, hvr⟩ : ∃ vs vr, rows[k] = (vs, vr) := ⟨_, _, rfl⟩
    rw [hvr] at hc
    have hc0 := hc 0 vs rfl
    have hc1 := hc 1 vr rfl
    simp only [Nat.add_zero] at hc0
    have hpv := hpl.get hpk (by rw [List.getElem?_eq_getElem hrk, hvr])
    obtain ⟨f, g, cf, cg, rfl, rfl, ef, eg, hsh, hrd⟩ := hpv
    have hent := eg
    unfold Ent at hent
    have HPK := qh hpk
    have HBX : Hid (Below wr.heap.size wr (wr.alloc (.cells #[.func (.func f) #[] cf, .func (.func g) #[] cg] 88))) := qh (belowA wr _)
    have HU2 := qh (HU.out.below HBX.out)
    have HRD := qh (hrd (wr.alloc (.cells #[.func (.func f) #[] cf, .func (.func g) #[] cg] 88)) w1.heap.size s u4 left (NX w w1.heap.size) (fun b hb => hb.1) (fun b hb => by have := HU.out.XR; simp at hb; exact ⟨by omega, by omega⟩) (Agree.of_below HBX.out (Nat.le_refl _)) (by simp) ⟨w, HT.out, HU2.out.B, Nat.le_of_lt HU.out.XR⟩ (by omega) HU2.out.S HU2.out.I (fun e => HU2.out.W (by rw [List.drop_eq_getElem_cons hlt, ← e]; have := List.getElem?_eq_some_iff.1 hpk; obtain ⟨_, h9⟩ := this; rw [h9]; exact List.mem_cons_self)) HU2.out.F HU2.out.V)
    have HEQ : Hid (Z = match Sc.read pk s.t left with | some (y, q) => Sc.reads (ps.drop (k + 1)) y q | none => none) := qh (by
     rw [HU.out.eq, List.drop_eq_getElem_cons hlt]
     obtain ⟨_, h9⟩ := List.getElem?_eq_some_iff.1 hpk
     rw [h9]; rfl)
    obtain ⟨ro, hro⟩ : ∃ ro, Sc.read pk s.t left = ro := ⟨_, rfl⟩
    rw [hro] at HRD HEQ
    have HRO := qh hro
    clear hc hpl hR hsh hrd hpk hvr ef eg hXr hro
    go_wp2_with fail
    refine HRD.out.mono ?_
    rintro e w7 ⟨hgr, v7, rfl, hy⟩
    have HGR := qh hgr
    have HY := qh hy
    have HR7 : Hid (Blk w7 w.heap.size 37 (stepA (sv Sc.z))) := qh (HU2.out.R.grown hgr (by have := HU.out.XR; omega))
    have HB7 : Hid (Below w.heap.size w w7) := qh (HU2.out.B.trans (grown_Below hgr HU2.out.B.size (Nat.le_of_lt HU.out.XR)))
    clear hgr hy HRD
    cases ro with
    | none =>
     have HON : Hid (o = none) := qh (by rw [HO.out, HEQ.out])
     clear HEQ HRO HY
     go_wp2_with (refine wpList_store_row_as rfl _ (.tmp 2) (.tmp 53) rfl w.heap.size (stepA (sv Sc.z)) (by rfl) (by rfl) _ _ HR7.out (by rw [stepA_size]; exact infoSt) (by rw [stepA_size]) (inner_sv (q := fun _ => True) (w := w) rfl rfl rfl).one ?_; intro w8 hw8; have HR8 : Hid (Blk w8 w.heap.size 37 (stepA (sv Sc.z))) := (by rw [hw8]; exact qh (HR7.out.setRow _)); have HB8 : Hid (Below w.heap.size w w8) := (by rw [hw8]; exact qh (below_setRow HB7.out (Nat.le_refl _) _)); clear hw8)
     exact bodyPost_ret (results_cell_tmp rfl _ _ _ _ _ _ _ rfl HR8.out Tryz.underlying37 rfl (by rw [stepA_size]; exact infoSt)) rfl ⟨sv Sc.z, by rw [HON.out]; rfl, by rw [HON.out]; rfl, rfl, inner_sv rfl rfl rfl, HB8.out⟩
    | some yq =>
     obtain ⟨y, q⟩ := yq
     obtain ⟨s', rfl, h1, h2, h3, h4⟩ := HY.out y q rfl
     have HN := qh (HU2.out.next HND.out HPK.out HRO.out HGR.out h1 h2 h3 h4)
     clear HEQ HRO HY h1 h2 h3 h4
     go_wp2_with fail
     exact ⟨⟨k + 1, s', q, by go_num, by omega, HN⟩, by simp [intOf]; omega⟩
   ·obtain rfl : k = ps.length := by omega
    have HZ : Hid (Z = some (s.t, left)) := qh (by rw [HU.out.eq, List.drop_length]; rfl)
    have HR7 := qh HU.out.R
    have HB7 := qh HU.out.B
    obtain ⟨pl, cl, rfl, l1, l2, -⟩ := HU.out.V
    by_cases hp0 : ps = []
    ·have HON : Hid (o = none) := qh (by rw [HO.out, HZ.out]; cases left <;> simp [hp0])
     subst hp0
     simp only [List.length_nil] at *
     go_wp2_with (refine wpList_store_row_as rfl _ (.tmp 2) (.tmp 64) rfl w.heap.size (stepA (sv Sc.z)) (by rfl) (by rfl) _ _ HR7.out (by rw [stepA_size]; exact infoSt) (by rw [stepA_size]) (inner_sv (q := fun _ => True) (w := w) rfl rfl rfl).one ?_; intro w8 hw8; have HR8 : Hid (Blk w8 w.heap.size 37 (stepA (sv Sc.z))) := (by rw [hw8]; exact qh (HR7.out.setRow _)); have HB8 : Hid (Below w.heap.size w w8) := (by rw [hw8]; exact qh (below_setRow HB7.out (Nat.le_refl _) _)); clear hw8)
     exact bodyPost_ret (results_cell_tmp rfl _ _ _ _ _ _ _ rfl HR8.out Tryz.underlying37 rfl (by rw [stepA_size]; exact infoSt)) rfl ⟨sv Sc.z, by rw [HON.out]; rfl, by rw [HON.out]; rfl, rfl, inner_sv rfl rfl rfl, HB8.out⟩
    ·have hpp : 0 < ps.length := List.length_pos_iff.2 hp0
     have hpe : ((ps.length : Int) == 0) = false := by simp only [beq_eq_false_iff_ne, ne_eq]; omega
     by_cases hl0 : left = []
     ·have HON : Hid (o = some s.t) := qh (by rw [HO.out, HZ.out, hl0]; simp [hp0])
      subst hl0
      clear hp0
      have HSX := qh HU.out.S
      have HIX := qh HU.out.I
      have hXR := HU.out.XR
      simp only [List.length_nil] at *
      go_wp2_with (first
       | (refine wpList_load_row rfl _ (.tmp 6) rfl w1.heap.size (by rfl) _ (stepA s) (0, 0) _ HSX.out.b Tryz.underlying37 rfl (by rw [stepA_size]; exact infoSt) ?_)
       | (refine wpList_store_row_as rfl _ (.tmp 2) (.tmp 65) rfl w.heap.size (stepA s) (by rfl) (by rfl) _ _ HR7.out (by rw [stepA_size]; exact infoSt) (by rw [stepA_size, stepA_size]) HIX.out.one ?_; intro w8 hw8; have HR8 : Hid (Blk w8 w.heap.size 37 (stepA s)) := (by rw [hw8]; exact qh (HR7.out.setRow _)); have HB8 : Hid (Below w.heap.size w w8) := (by rw [hw8]; exact qh (below_setRow HB7.out (Nat.le_refl _) _)); have HI8 : Hid (Inner (fun b => w.heap.size ≤ b) w8 s) := (by rw [hw8]; exact qh ((HIX.out.setRowR (stepA s)).imp fun _ h => Nat.le_of_lt h.2)); clear hw8))
      exact bodyPost_ret (results_cell_tmp rfl _ _ _ _ _ _ _ rfl HR8.out Tryz.underlying37 rfl (by rw [stepA_size]; exact infoSt)) rfl ⟨s, by rw [HON.out]; rfl, by rw [HON.out]; rfl, HSX.out.p16, HI8.out, HB8.out⟩
     ·have HON : Hid (o = none) := qh (by rw [HO.out, HZ.out]; cases left with | nil => exact absurd rfl hl0 | cons a b => rfl)
      have hll : 0 < left.length := List.length_pos_iff.2 hl0
      clear hp0 hl0
      go_wp2_with (refine wpList_store_row_as rfl _ (.tmp 2) (.tmp 64) rfl w.heap.size (stepA (sv Sc.z)) (by rfl) (by rfl) _ _ HR7.out (by rw [stepA_size]; exact infoSt) (by rw [stepA_size]) (inner_sv (q := fun _ => True) (w := w) rfl rfl rfl).one ?_; intro w8 hw8; have HR8 : Hid (Blk w8 w.heap.size 37 (stepA (sv Sc.z))) := (by rw [hw8]; exact qh (HR7.out.setRow _)); have HB8 : Hid (Below w.heap.size w w8) := (by rw [hw8]; exact qh (below_setRow HB7.out (Nat.le_refl _) _)); clear hw8)
      exact bodyPost_ret (results_cell_tmp rfl _ _ _ _ _ _ _ rfl HR8.out Tryz.underlying37 rfl (by rw [stepA_size]; exact infoSt)) rfl ⟨sv Sc.z, by rw [HON.out]; rfl, by rw [HON.out]; rfl, rfl, inner_sv rfl rfl rfl, HB8.out⟩
 ·
  go_enter Tryz.func10, Tryz.ntmps10
  go_wp2_with (refine wpList_alloc_as rfl _ rfl _ zeroSt ?_; intro wz hwz; have HRZ : Hid (Blk wz w.heap.size 37 (stepA (sv Sc.z))) := (by rw [hwz]; exact qh (Blk.new _ _ _)); have HBZ : Hid (Below w.heap.size w wz) := (by rw [hwz]; exact qh (belowA w _)); clear hwz)
  refine (HW.out _).mono ?_
  rintro e w1 ⟨v1, rfl, ho1, hb1⟩
  have hz1 := HRZ.out.lt
  have HR1 := qh (HRZ.out.below hb1 HRZ.out.lt)
  have HB1 := qh (HBZ.out.trans (hb1.mono HBZ.out.size))
  have HT1 := qh (HT.out.below HB1.out)
  have HV1 := qh (SlP.of_owns encS_len ho1)
  have hb1s := hb1.size
  obtain ⟨p1, k1, rfl⟩ := owns_form ho1
  obtain ⟨pp, cap, hvv, q1, q2, hR, hq⟩ := HV1.out
  cases hvv
  obtain ⟨b, off, rfl, hbl2, hc⟩ := hR.at (i := 0) (by simp)
  have hx := hc 0 (.string (str x)) rfl
  simp only [Nat.zero_mul, Nat.add_zero] at hx
  clear hR hq hc hb1
  go_wp2_with (first
   | (refine wpList_alloc_as rfl _ rfl _ zeroSt ?_; intro w2 hw2; have HX2 : Hid (Blk w2 w1.heap.size 37 (stepA (sv Sc.z))) := (by rw [hw2]; exact qh (Blk.new _ _ _)); have HB2 : Hid (Below w1.heap.size w1 w2) := (by rw [hw2]; exact qh (belowA w1 _)); have HZ2 : Hid (w2.heap.size = w1.heap.size + 1) := (by rw [hw2]; exact qh (by simp)); clear hw2)
   | ((refine wpList_store_row_as rfl _ (.tmp 6) (.tmp 23) rfl w1.heap.size (stepA (sv { Sc.z with is := true })) (by rfl) (by rfl) _ _ HX2.out (by rw [stepA_size]; exact infoSt) (by rw [stepA_size, stepA_size]) (inner_sv (q := fun _ => True) (w := w) rfl rfl rfl).one ?_; intro w3 hw3; have HX3 : Hid (Blk w3 w1.heap.size 37 (stepA (sv { Sc.z with is := true }))) := (by rw [hw3]; exact qh (HX2.out.setRow _)); have HB3 : Hid (Below w1.heap.size w1 w3) := (by rw [hw3]; exact qh (below_setRow HB2.out (Nat.le_refl _) _)); have HZ3 : Hid (w3.heap.size = w1.heap.size + 1) := (by rw [hw3]; exact qh (by unfold World.setRow; simp [HZ2.out])); clear hw3; have HS3 : Hid (StAt w3 w1.heap.size (sv { Sc.z with is := true })) := qh ⟨HX3.out, rfl⟩; have c34 := HS3.out.c34; have f34 := HS3.out.fz 34; have c1 := HS3.out.c1; have f1 := HS3.out.fz 1; simp only [sv, Sc.z] at c34 c1)))
  have HS4 : Hid (StAt (w3.setCell ⟨w1.heap.size, 34, none⟩ (.bool true)) w1.heap.size (sv { Sc.z with is := true, mpls := true })) := qh (HS3.out.setM true)
  have HB4 : Hid (Below w1.heap.size w1 (w3.setCell ⟨w1.heap.size, 34, none⟩ (.bool true))) := qh (HB3.out.setCell (Nat.le_refl _) _)
  refine (HI.out _ (HT1.out.below HB4.out)).mono ?_
  rintro e w4 ⟨rfl, rfl⟩
  have c1' := HS4.out.c1
  have f1' := HS4.out.fz 1
  go_wp2_with fail
  refine (HP.out _).mono ?_
  rintro e w5 ⟨v5, rfl, hb5, hp5⟩
  have HB5 : Hid (Below w1.heap.size w1 w5) := qh ((HB4.out.setCell (Nat.le_refl _) _).trans (hb5.mono (HB4.out.setCell (Nat.le_refl _) _).size))
  have HL5 : Hid (((w3.setCell ⟨w1.heap.size, 34, none⟩ (.bool true)).setCell ⟨w1.heap.size, 1, none⟩ (.int .i64 (max (kindI x) 0))).heap.size = w1.heap.size + 1) := qh (by rw [World.size_setCell, World.size_setCell]; exact HZ3.out)
  have HS5 : Hid (StAt w5 w1.heap.size (sv { Sc.z with is := true, mpls := true, kind := max (kindI x) 0 })) := qh ((HS4.out.setKind _).next hb5)
  have HP5 : Hid (PartsAre (w1.heap.size + 1) w5 v5 ps) := qh (by rw [HL5.out] at hp5; exact hp5)
  have HV5 : Hid (SlP (NX w w1.heap.size) w5 1 encS (.slice (some ⟨b, off, none⟩) (r.length + 1) k1) (x :: r)) := qh ((HV1.out.bd.below HB5.out (Nat.le_refl _)).imp fun b hb => ⟨Nat.ne_of_lt hb.2, by have := hb.1; omega⟩)
  have HB6 : Hid (Below w.heap.size w w5) := qh (HB1.out.trans (HB5.out.mono HB1.out.size))
  have HR5 := qh (HR1.out.below HB5.out HR1.out.lt)
  clear hb5 hp5 HL5 HX2 HX3 HS3 HS4 HB2 HB3 HB4 HZ2 HZ3 HV1 hx c34 f34 c1 f1 c1' f1'
  obtain ⟨rows, hpl, p5, c5, rfl, -⟩ := HP5.out
  have hlr := hpl.len
  have hn5 : rows.length ≤ 3 := by rw [hlr]; exact HPL.out
  clear hpl
  go_wp2_with (refine wpList_tail1 rfl 79 (.tmp 36) (by rfl) Tryz.underlying79 (fun w => by kernel_rfl) (v := .slice (some ⟨b, off, none⟩) (r.length + 1) k1) (by rfl) HV5.out ?_; intro v6 hv6; have HV6 := qh hv6; clear hv6)
  have HO0 : Hid (OnS w w1.heap.size (w1.heap.size + 1) ps (Sc.reads ps t0 r) 0 (sv { Sc.z with is := true, mpls := true, kind := max (kindI x) 0 }) r v6 (.slice p5 ps.length c5) w5) := qh ⟨HS5.out, inner_sv rfl rfl rfl, HV6.out, fun _ => ⟨rfl, rfl⟩, HFR.out, (by rw [List.drop_zero, HX1.out]; rfl), (by have := HP5.out; rw [hlr] at this; exact this), HB6.out, HR5.out, Nat.lt_succ_self _, Nat.lt_of_lt_of_le hz1 hb1s, HT.out⟩
  clear HS5 HP5 HV5 HV6 HB5 HB6 HR5 hlr hn5
  generalize Sc.reads ps t0 r = Z at *
  go_loopw [4, 9, 10, 11, 40] (fun vl _ _ _ vi wr => ∃ (k : Nat) (s : StV) (left : List Hp.Wd), vi = .int .i64 k ∧ k ≤ ps.length ∧ Hid (OnS w w1.heap.size (w1.heap.size + 1) ps Z k s left vl (.slice p5 ps.length c5) wr)) (fun _ _ _ _ vi _ => ps.length - (intOf vi).toNat)
  case atStart => exact ⟨0, _, r, rfl, Nat.zero_le _, HO0⟩
  case round =>
   obtain ⟨k, s, left, rfl, hk, HU⟩ := hrel
   have hps := HPL.out
   have hwr := HU.out.B.size
   have hXr := HU.out.S.lt
   by_cases hlt : k < ps.length
   ·obtain ⟨pk, hpk⟩ : ∃ p, ps[k]? = some p := ⟨_, List.getElem?_eq_getElem hlt⟩
    obtain ⟨rows, hpl, hsl⟩ := HU.out.P
    obtain ⟨p6, c6, hvv, q1, q2, hR, -⟩ := hsl
    have hlr : rows.length = ps.length := hpl.len
    have hrk : k < rows.length := by omega
    obtain ⟨b6, o6, hb6, hbl6, hc⟩ := hR.at hrk
    injection hvv with e1 e2 e3
    subst e1 e3 hb6
    clear e2
    obtain ⟨vs, vr, hvr⟩ : ∃ vs vr, rows[k] = (vs, vr) := ⟨_, _, rfl⟩
    rw [hvr] at hc
    have hc0 := hc 0 vs rfl
    have hc1 := hc 1 vr rfl
    simp only [Nat.add_zero] at hc0
    have hpv := hpl.get hpk (by rw [List.getElem?_eq_getElem hrk, hvr])
    obtain ⟨f, g, cf, cg, rfl, rfl, ef, eg, hsh, hrd⟩ := hpv
    have hent := eg
    unfold Ent at hent
    have HPK := qh hpk
    have HBX : Hid (Below wr.heap.size wr (wr.alloc (.cells #[.func (.func f) #[] cf, .func (.func g) #[] cg] 88))) := qh (belowA wr _)
    have HU2 := qh (HU.out.below HBX.out)
    have HRD := qh (hrd (wr.alloc (.cells #[.func (.func f) #[] cf, .func (.func g) #[] cg] 88)) w1.heap.size s u4 left (NX w w1.heap.size) (fun b hb => hb.1) (fun b hb => by have := HU.out.XR; simp at hb; exact ⟨by omega, by omega⟩) (Agree.of_below HBX.out (Nat.le_refl _)) (by simp) ⟨w, HT.out, HU2.out.B, Nat.le_of_lt HU.out.XR⟩ (by omega) HU2.out.S HU2.out.I (fun e => HU2.out.W (by rw [List.drop_eq_getElem_cons hlt, ← e]; have := List.getElem?_eq_some_iff.1 hpk; obtain ⟨_, h9⟩ := this; rw [h9]; exact List.mem_cons_self)) HU2.out.F HU2.out.V)
    have HEQ : Hid (Z = match Sc.read pk s.t left with | some (y, q) => Sc.reads (ps.drop (k + 1)) y q | none => none) := qh (by
     rw [HU.out.eq, List.drop_eq_getElem_cons hlt]
     obtain ⟨_, h9⟩ := List.getElem?_eq_some_iff.1 hpk
     rw [h9]; rfl)
    obtain ⟨ro, hro⟩ : ∃ ro, Sc.read pk s.t left = ro := ⟨_, rfl⟩
    rw [hro] at HRD HEQ
    have HRO := qh hro
    clear hc hpl hR hsh hrd hpk hvr ef eg hXr hro
    go_wp2_with fail
    refine HRD.out.mono ?_
    rintro e w7 ⟨hgr, v7, rfl, hy⟩
    have HGR := qh hgr
    have HY := qh hy
    have HR7 : Hid (Blk w7 w.heap.size 37 (stepA (sv Sc.z))) := qh (HU2.out.R.grown hgr (by have := HU.out.XR; omega))
    have HB7 : Hid (Below w.heap.size w w7) := qh (HU2.out.B.trans (grown_Below hgr HU2.out.B.size (Nat.le_of_lt HU.out.XR)))
    clear hgr hy HRD
    cases ro with
    | none =>
     have HON : Hid (o = none) := qh (by rw [HO.out, HEQ.out])
     clear HEQ HRO HY
     go_wp2_with (refine wpList_store_row_as rfl _ (.tmp 2) (.tmp 53) rfl w.heap.size (stepA (sv Sc.z)) (by rfl) (by rfl) _ _ HR7.out (by rw [stepA_size]; exact infoSt) (by rw [stepA_size]) (inner_sv (q := fun _ => True) (w := w) rfl rfl rfl).one ?_; intro w8 hw8; have HR8 : Hid (Blk w8 w.heap.size 37 (stepA (sv Sc.z))) := (by rw [hw8]; exact qh (HR7.out.setRow _)); have HB8 : Hid (Below w.heap.size w w8) := (by rw [hw8]; exact qh (below_setRow HB7.out (Nat.le_refl _) _)); clear hw8)
     exact bodyPost_ret (results_cell_tmp rfl _ _ _ _ _ _ _ rfl HR8.out Tryz.underlying37 rfl (by rw [stepA_size]; exact infoSt)) rfl ⟨sv Sc.z, by rw [HON.out]; rfl, by rw [HON.out]; rfl, rfl, inner_sv rfl rfl rfl, HB8.out⟩
    | some yq =>
     obtain ⟨y, q⟩ := yq
     obtain ⟨s', rfl, h1, h2, h3, h4⟩ := HY.out y q rfl
     have HN := qh (HU2.out.next HND.out HPK.out HRO.out HGR.out h1 h2 h3 h4)
     clear HEQ HRO HY h1 h2 h3 h4
     go_wp2_with fail
     exact ⟨⟨k + 1, s', q, by go_num, by omega, HN⟩, by simp [intOf]; omega⟩
   ·obtain rfl : k = ps.length := by omega
    have HZ : Hid (Z = some (s.t, left)) := qh (by rw [HU.out.eq, List.drop_length]; rfl)
    have HR7 := qh HU.out.R
    have HB7 := qh HU.out.B
    obtain ⟨pl, cl, rfl, l1, l2, -⟩ := HU.out.V
    by_cases hp0 : ps = []
    ·have HON : Hid (o = none) := qh (by rw [HO.out, HZ.out]; cases left <;> simp [hp0])
     subst hp0
     simp only [List.length_nil] at *
     go_wp2_with (refine wpList_store_row_as rfl _ (.tmp 2) (.tmp 64) rfl w.heap.size (stepA (sv Sc.z)) (by rfl) (by rfl) _ _ HR7.out (by rw [stepA_size]; exact infoSt) (by rw [stepA_size]) (inner_sv (q := fun _ => True) (w := w) rfl rfl rfl).one ?_; intro w8 hw8; have HR8 : Hid (Blk w8 w.heap.size 37 (stepA (sv Sc.z))) := (by rw [hw8]; exact qh (HR7.out.setRow _)); have HB8 : Hid (Below w.heap.size w w8) := (by rw [hw8]; exact qh (below_setRow HB7.out (Nat.le_refl _) _)); clear hw8)
     exact bodyPost_ret (results_cell_tmp rfl _ _ _ _ _ _ _ rfl HR8.out Tryz.underlying37 rfl (by rw [stepA_size]; exact infoSt)) rfl ⟨sv Sc.z, by rw [HON.out]; rfl, by rw [HON.out]; rfl, rfl, inner_sv rfl rfl rfl, HB8.out⟩
    ·have hpp : 0 < ps.length := List.length_pos_iff.2 hp0
     have hpe : ((ps.length : Int) == 0) = false := by simp only [beq_eq_false_iff_ne, ne_eq]; omega
     by_cases hl0 : left = []
     ·have HON : Hid (o = some s.t) := qh (by rw [HO.out, HZ.out, hl0]; simp [hp0])
      subst hl0
      clear hp0
      have HSX := qh HU.out.S
      have HIX := qh HU.out.I
      have hXR := HU.out.XR
      simp only [List.length_nil] at *
      go_wp2_with (first
       | (refine wpList_load_row rfl _ (.tmp 6) rfl w1.heap.size (by rfl) _ (stepA s) (0, 0) _ HSX.out.b Tryz.underlying37 rfl (by rw [stepA_size]; exact infoSt) ?_)
       | (refine wpList_store_row_as rfl _ (.tmp 2) (.tmp 65) rfl w.heap.size (stepA s) (by rfl) (by rfl) _ _ HR7.out (by rw [stepA_size]; exact infoSt) (by rw [stepA_size, stepA_size]) HIX.out.one ?_; intro w8 hw8; have HR8 : Hid (Blk w8 w.heap.size 37 (stepA s)) := (by rw [hw8]; exact qh (HR7.out.setRow _)); have HB8 : Hid (Below w.heap.size w w8) := (by rw [hw8]; exact qh (below_setRow HB7.out (Nat.le_refl _) _)); have HI8 : Hid (Inner (fun b => w.heap.size ≤ b) w8 s) := (by rw [hw8]; exact qh ((HIX.out.setRowR (stepA s)).imp fun _ h => Nat.le_of_lt h.2)); clear hw8))
      exact bodyPost_ret (results_cell_tmp rfl _ _ _ _ _ _ _ rfl HR8.out Tryz.underlying37 rfl (by rw [stepA_size]; exact infoSt)) rfl ⟨s, by rw [HON.out]; rfl, by rw [HON.out]; rfl, HSX.out.p16, HI8.out, HB8.out⟩
     ·have HON : Hid (o = none) := qh (by rw [HO.out, HZ.out]; cases left with | nil => exact absurd rfl hl0 | cons a b => rfl)
      have hll : 0 < left.length := List.length_pos_iff.2 hl0
      clear hp0 hl0
      go_wp2_with (refine wpList_store_row_as rfl _ (.tmp 2) (.tmp 64) rfl w.heap.size (stepA (sv Sc.z)) (by rfl) (by rfl) _ _ HR7.out (by rw [stepA_size]; exact infoSt) (by rw [stepA_size]) (inner_sv (q := fun _ => True) (w := w) rfl rfl rfl).one ?_; intro w8 hw8; have HR8 : Hid (Blk w8 w.heap.size 37 (stepA (sv Sc.z))) := (by rw [hw8]; exact qh (HR7.out.setRow _)); have HB8 : Hid (Below w.heap.size w w8) := (by rw [hw8]; exact qh (below_setRow HB7.out (Nat.le_refl _) _)); clear hw8)
      exact bodyPost_ret (results_cell_tmp rfl _ _ _ _ _ _ _ rfl HR8.out Tryz.underlying37 rfl (by rw [stepA_size]; exact infoSt)) rfl ⟨sv Sc.z, by rw [HON.out]; rfl, by rw [HON.out]; rfl, rfl, inner_sv rfl rfl rfl, HB8.out⟩
 ·
  go_enter Tryz.func10, Tryz.ntmps10
  go_wp2_with (refine wpList_alloc_as rfl _ rfl _ zeroSt ?_; intro wz hwz; have HRZ : Hid (Blk wz w.heap.size 37 (stepA (sv Sc.z))) := (by rw [hwz]; exact qh (Blk.new _ _ _)); have HBZ : Hid (Below w.heap.size w wz) := (by rw [hwz]; exact qh (belowA w _)); clear hwz)
  refine (HW.out _).mono ?_
  rintro e w1 ⟨v1, rfl, ho1, hb1⟩
  have hz1 := HRZ.out.lt
  have HR1 := qh (HRZ.out.below hb1 HRZ.out.lt)
  have HB1 := qh (HBZ.out.trans (hb1.mono HBZ.out.size))
  have HT1 := qh (HT.out.below HB1.out)
  have HV1 := qh (SlP.of_owns encS_len ho1)
  have hb1s := hb1.size
  obtain ⟨p1, k1, rfl⟩ := owns_form ho1
  obtain ⟨pp, cap, hvv, q1, q2, hR, hq⟩ := HV1.out
  cases hvv
  obtain ⟨b, off, rfl, hbl2, hc⟩ := hR.at (i := 0) (by simp)
  have hx := hc 0 (.string (str x)) rfl
  simp only [Nat.zero_mul, Nat.add_zero] at hx
  clear hR hq hc hb1
  go_wp2_with (first
   | (refine wpList_alloc_as rfl _ rfl _ zeroSt ?_; intro w2 hw2; have HX2 : Hid (Blk w2 w1.heap.size 37 (stepA (sv Sc.z))) := (by rw [hw2]; exact qh (Blk.new _ _ _)); have HB2 : Hid (Below w1.heap.size w1 w2) := (by rw [hw2]; exact qh (belowA w1 _)); have HZ2 : Hid (w2.heap.size = w1.heap.size + 1) := (by rw [hw2]; exact qh (by simp)); clear hw2)
   | ((refine wpList_store_row_as rfl _ (.tmp 6) (.tmp 23) rfl w1.heap.size (stepA (sv { Sc.z with is := false })) (by rfl) (by rfl) _ _ HX2.out (by rw [stepA_size]; exact infoSt) (by rw [stepA_size, stepA_size]) (inner_sv (q := fun _ => True) (w := w) rfl rfl rfl).one ?_; intro w3 hw3; have HX3 : Hid (Blk w3 w1.heap.size 37 (stepA (sv { Sc.z with is := false }))) := (by rw [hw3]; exact qh (HX2.out.setRow _)); have HB3 : Hid (Below w1.heap.size w1 w3) := (by rw [hw3]; exact qh (below_setRow HB2.out (Nat.le_refl _) _)); have HZ3 : Hid (w3.heap.size = w1.heap.size + 1) := (by rw [hw3]; exact qh (by unfold World.setRow; simp [HZ2.out])); clear hw3; have HS3 : Hid (StAt w3 w1.heap.size (sv { Sc.z with is := false })) := qh ⟨HX3.out, rfl⟩; have c34 := HS3.out.c34; have f34 := HS3.out.fz 34; have c1 := HS3.out.c1; have f1 := HS3.out.fz 1; simp only [sv, Sc.z] at c34 c1)))
  have HS4 : Hid (StAt (w3.setCell ⟨w1.heap.size, 34, none⟩ (.bool false)) w1.heap.size (sv { Sc.z with is := false, mpls := false })) := qh (HS3.out.setM false)
  have HB4 : Hid (Below w1.heap.size w1 (w3.setCell ⟨w1.heap.size, 34, none⟩ (.bool false))) := qh (HB3.out.setCell (Nat.le_refl _) _)
  refine (HI.out _ (HT1.out.below HB4.out)).mono ?_
  rintro e w4 ⟨rfl, rfl⟩
  have c1' := HS4.out.c1
  have f1' := HS4.out.fz 1
  go_wp2_with fail
  refine (HP.out _).mono ?_
  rintro e w5 ⟨v5, rfl, hb5, hp5⟩
  have HB5 : Hid (Below w1.heap.size w1 w5) := qh ((HB4.out.setCell (Nat.le_refl _) _).trans (hb5.mono (HB4.out.setCell (Nat.le_refl _) _).size))
  have HL5 : Hid (((w3.setCell ⟨w1.heap.size, 34, none⟩ (.bool false)).setCell ⟨w1.heap.size, 1, none⟩ (.int .i64 (max (kindI x) 0))).heap.size = w1.heap.size + 1) := qh (by rw [World.size_setCell, World.size_setCell]; exact HZ3.out)
  have HS5 : Hid (StAt w5 w1.heap.size (sv { Sc.z with is := false, mpls := false, kind := max (kindI x) 0 })) := qh ((HS4.out.setKind _).next hb5)
  have HP5 : Hid (PartsAre (w1.heap.size + 1) w5 v5 ps) := qh (by rw [HL5.out] at hp5; exact hp5)
  have HV5 : Hid (SlP (NX w w1.heap.size) w5 1 encS (.slice (some ⟨b, off, none⟩) (r.length + 1) k1) (x :: r)) := qh ((HV1.out.bd.below HB5.out (Nat.le_refl _)).imp fun b hb => ⟨Nat.ne_of_lt hb.2, by have := hb.1; omega⟩)
  have HB6 : Hid (Below w.heap.size w w5) := qh (HB1.out.trans (HB5.out.mono HB1.out.size))
  have HR5 := qh (HR1.out.below HB5.out HR1.out.lt)
  clear hb5 hp5 HL5 HX2 HX3 HS3 HS4 HB2 HB3 HB4 HZ2 HZ3 HV1 hx c34 f34 c1 f1 c1' f1'
  obtain ⟨rows, hpl, p5, c5, rfl, -⟩ := HP5.out
  have hlr := hpl.len
  have hn5 : rows.length ≤ 3 := by rw [hlr]; exact HPL.out
  clear hpl
  go_wp2_with (refine wpList_tail1 rfl 79 (.tmp 36) (by rfl) Tryz.underlying79 (fun w => by kernel_rfl) (v := .slice (some ⟨b, off, none⟩) (r.length + 1) k1) (by rfl) HV5.out ?_; intro v6 hv6; have HV6 := qh hv6; clear hv6)
  have HO0 : Hid (OnS w w1.heap.size (w1.heap.size + 1) ps (Sc.reads ps t0 r) 0 (sv { Sc.z with is := false, mpls := false, kind := max (kindI x) 0 }) r v6 (.slice p5 ps.length c5) w5) := qh ⟨HS5.out, inner_sv rfl rfl rfl, HV6.out, fun _ => ⟨rfl, rfl⟩, HFR.out, (by rw [List.drop_zero, HX1.out]; rfl), (by have := HP5.out; rw [hlr] at this; exact this), HB6.out, HR5.out, Nat.lt_succ_self _, Nat.lt_of_lt_of_le hz1 hb1s, HT.out⟩
  clear HS5 HP5 HV5 HV6 HB5 HB6 HR5 hlr hn5
  generalize Sc.reads ps t0 r = Z at *
  go_loopw [4, 9, 10, 11, 40] (fun vl _ _ _ vi wr => ∃ (k : Nat) (s : StV) (left : List Hp.Wd), vi = .int .i64 k ∧ k ≤ ps.length ∧ Hid (OnS w w1.heap.size (w1.heap.size + 1) ps Z k s left vl (.slice p5 ps.length c5) wr)) (fun _ _ _ _ vi _ => ps.length - (intOf vi).toNat)
  case atStart => exact ⟨0, _, r, rfl, Nat.zero_le _, HO0⟩
  case round =>
   obtain ⟨k, s, left, rfl, hk, HU⟩ := hrel
   have hps := HPL.out
   have hwr := HU.out.B.size
   have hXr := HU.out.S.lt
   by_cases hlt : k < ps.length
   ·obtain ⟨pk, hpk⟩ : ∃ p, ps[k]? = some p := ⟨_, List.getElem?_eq_getElem hlt⟩
    obtain ⟨rows, hpl, hsl⟩ := HU.out.P
    obtain ⟨p6, c6, hvv, q1, q2, hR, -⟩ := hsl
    have hlr : rows.length = ps.length := hpl.len
    have hrk : k < rows.length := by omega
    obtain ⟨b6, o6, hb6, hbl6, hc⟩ := hR.at hrk
    injection hvv with e1 e2 e3
    subst e1 e3 hb6
    clear e2
    obtain ⟨vs, vr, hvr⟩ : ∃ vs vr, rows[k] = (vs, vr) := ⟨_, _, rfl⟩
    rw [hvr] at hc
    have hc0 := hc 0 vs rfl
    have hc1 := hc 1 vr rfl
    simp only [Nat.add_zero] at hc0
    have hpv := hpl.get hpk (by rw [List.getElem?_eq_getElem hrk, hvr])
    obtain ⟨f, g, cf, cg, rfl, rfl, ef, eg, hsh, hrd⟩ := hpv
    have hent := eg
    unfold Ent at hent
    have HPK := qh hpk
    have HBX : Hid (Below wr.heap.size wr (wr.alloc (.cells #[.func (.func f) #[] cf, .func (.func g) #[] cg] 88))) := qh (belowA wr _)
    have HU2 := qh (HU.out.below HBX.out)
    have HRD := qh (hrd (wr.alloc (.cells #[.func (.func f) #[] cf, .func (.func g) #[] cg] 88)) w1.heap.size s u4 left (NX w w1.heap.size) (fun b hb => hb.1) (fun b hb => by have := HU.out.XR; simp at hb; exact ⟨by omega, by omega⟩) (Agree.of_below HBX.out (Nat.le_refl _)) (by simp) ⟨w, HT.out, HU2.out.B, Nat.le_of_lt HU.out.XR⟩ (by omega) HU2.out.S HU2.out.I (fun e => HU2.out.W (by rw [List.drop_eq_getElem_cons hlt, ← e]; have := List.getElem?_eq_some_iff.1 hpk; obtain ⟨_, h9⟩ := this; rw [h9]; exact List.mem_cons_self)) HU2.out.F HU2.out.V)
    have HEQ : Hid (Z = match Sc.read pk s.t left with | some (y, q) => Sc.reads (ps.drop (k + 1)) y q | none => none) := qh (by
     rw [HU.out.eq, List.drop_eq_getElem_cons hlt]
     obtain ⟨_, h9⟩ := List.getElem?_eq_some_iff.1 hpk
     rw [h9]; rfl)
    obtain ⟨ro, hro⟩ : ∃ ro, Sc.read pk s.t left = ro := ⟨_, rfl⟩
    rw [hro] at HRD HEQ
    have HRO := qh hro
    clear hc hpl hR hsh hrd hpk hvr ef eg hXr hro
    go_wp2_with fail
    refine HRD.out.mono ?_
    rintro e w7 ⟨hgr, v7, rfl, hy⟩
    have HGR := qh hgr
    have HY := qh hy
    have HR7 : Hid (Blk w7 w.heap.size 37 (stepA (sv Sc.z))) := qh (HU2.out.R.grown hgr (by have := HU.out.XR; omega))
    have HB7 : Hid (Below w.heap.size w w7) := qh (HU2.out.B.trans (grown_Below hgr HU2.out.B.size (Nat.le_of_lt HU.out.XR)))
    clear hgr hy HRD
    cases ro with
    | none =>
     have HON : Hid (o = none) := qh (by rw [HO.out, HEQ.out])
     clear HEQ HRO HY
     go_wp2_with (refine wpList_store_row_as rfl _ (.tmp 2) (.tmp 53) rfl w.heap.size (stepA (sv Sc.z)) (by rfl) (by rfl) _ _ HR7.out (by rw [stepA_size]; exact infoSt) (by rw [stepA_size]) (inner_sv (q := fun _ => True) (w := w) rfl rfl rfl).one ?_; intro w8 hw8; have HR8 : Hid (Blk w8 w.heap.size 37 (stepA (sv Sc.z))) := (by rw [hw8]; exact qh (HR7.out.setRow _)); have HB8 : Hid (Below w.heap.size w w8) := (by rw [hw8]; exact qh (below_setRow HB7.out (Nat.le_refl _) _)); clear hw8)
     exact bodyPost_ret (results_cell_tmp rfl _ _ _ _ _ _ _ rfl HR8.out Tryz.underlying37 rfl (by rw [stepA_size]; exact infoSt)) rfl ⟨sv Sc.z, by rw [HON.out]; rfl, by rw [HON.out]; rfl, rfl, inner_sv rfl rfl rfl, HB8.out⟩
    | some yq =>
     obtain ⟨y, q⟩ := yq
     obtain ⟨s', rfl, h1, h2, h3, h4⟩ := HY.out y q rfl
     have HN := qh (HU2.out.next HND.out HPK.out HRO.out HGR.out h1 h2 h3 h4)
     clear HEQ HRO HY h1 h2 h3 h4
     go_wp2_with fail
     exact ⟨⟨k + 1, s', q, by go_num, by omega, HN⟩, by simp [intOf]; omega⟩
   ·obtain rfl : k = ps.length := by omega
    have HZ : Hid (Z = some (s.t, left)) := qh (by rw [HU.out.eq, List.drop_length]; rfl)
    have HR7 := qh HU.out.R
    have HB7 := qh HU.out.B
    obtain ⟨pl, cl, rfl, l1, l2, -⟩ := HU.out.V
    by_cases hp0 : ps = []
    ·have HON : Hid (o = none) := qh (by rw [HO.out, HZ.out]; cases left <;> simp [hp0])
     subst hp0
     simp only [List.length_nil] at *
     go_wp2_with (refine wpList_store_row_as rfl _ (.tmp 2) (.tmp 64) rfl w.heap.size (stepA (sv Sc.z)) (by rfl) (by rfl) _ _ HR7.out (by rw [stepA_size]; exact infoSt) (by rw [stepA_size]) (inner_sv (q := fun _ => True) (w := w) rfl rfl rfl).one ?_; intro w8 hw8; have HR8 : Hid (Blk w8 w.heap.size 37 (stepA (sv Sc.z))) := (by rw [hw8]; exact qh (HR7.out.setRow _)); have HB8 : Hid (Below w.heap.size w w8) := (by rw [hw8]; exact qh (below_setRow HB7.out (Nat.le_refl _) _)); clear hw8)
     exact bodyPost_ret (results_cell_tmp rfl _ _ _ _ _ _ _ rfl HR8.out Tryz.underlying37 rfl (by rw [stepA_size]; exact infoSt)) rfl ⟨sv Sc.z, by rw [HON.out]; rfl, by rw [HON.out]; rfl, rfl, inner_sv rfl rfl rfl, HB8.out⟩
    ·have hpp : 0 < ps.length := List.length_pos_iff.2 hp0
     have hpe : ((ps.length : Int) == 0) = false := by simp only [beq_eq_false_iff_ne, ne_eq]; omega
     by_cases hl0 : left = []
     ·have HON : Hid (o = some s.t) := qh (by rw [HO.out, HZ.out, hl0]; simp [hp0])
      subst hl0
      clear hp0
      have HSX := qh HU.out.S
      have HIX := qh HU.out.I
      have hXR := HU.out.XR
      simp only [List.length_nil] at *
      go_wp2_with (first
       | (refine wpList_load_row rfl _ (.tmp 6) rfl w1.heap.size (by rfl) _ (stepA s) (0, 0) _ HSX.out.b Tryz.underlying37 rfl (by rw [stepA_size]; exact infoSt) ?_)
       | (refine wpList_store_row_as rfl _ (.tmp 2) (.tmp 65) rfl w.heap.size (stepA s) (by rfl) (by rfl) _ _ HR7.out (by rw [stepA_size]; exact infoSt) (by rw [stepA_size, stepA_size]) HIX.out.one ?_; intro w8 hw8; have HR8 : Hid (Blk w8 w.heap.size 37 (stepA s)) := (by rw [hw8]; exact qh (HR7.out.setRow _)); have HB8 : Hid (Below w.heap.size w w8) := (by rw [hw8]; exact qh (below_setRow HB7.out (Nat.le_refl _) _)); have HI8 : Hid (Inner (fun b => w.heap.size ≤ b) w8 s) := (by rw [hw8]; exact qh ((HIX.out.setRowR (stepA s)).imp fun _ h => Nat.le_of_lt h.2)); clear hw8))
      exact bodyPost_ret (results_cell_tmp rfl _ _ _ _ _ _ _ rfl HR8.out Tryz.underlying37 rfl (by rw [stepA_size]; exact infoSt)) rfl ⟨s, by rw [HON.out]; rfl, by rw [HON.out]; rfl, HSX.out.p16, HI8.out, HB8.out⟩
     ·have HON : Hid (o = none) := qh (by rw [HO.out, HZ.out]; cases left with | nil => exact absurd rfl hl0 | cons a b => rfl)
      have hll : 0 < left.length := List.length_pos_iff.2 hl0
      clear hp0 hl0
      go_wp2_with (refine wpList_store_row_as rfl _ (.tmp 2) (.tmp 64) rfl w.heap.size (stepA (sv Sc.z)) (by rfl) (by rfl) _ _ HR7.out (by rw [stepA_size]; exact infoSt) (by rw [stepA_size]) (inner_sv (q := fun _ => True) (w := w) rfl rfl rfl).one ?_; intro w8 hw8; have HR8 : Hid (Blk w8 w.heap.size 37 (stepA (sv Sc.z))) := (by rw [hw8]; exact qh (HR7.out.setRow _)); have HB8 : Hid (Below w.heap.size w w8) := (by rw [hw8]; exact qh (below_setRow HB7.out (Nat.le_refl _) _)); clear hw8)
      exact bodyPost_ret (results_cell_tmp rfl _ _ _ _ _ _ _ rfl HR8.out Tryz.underlying37 rfl (by rw [stepA_size]; exact infoSt)) rfl ⟨sv Sc.z, by rw [HON.out]; rfl, by rw [HON.out]; rfl, rfl, inner_sv rfl rfl rfl, HB8.out⟩
end Go.Proofs.YtdbgeobolongmaaGreatDoor
