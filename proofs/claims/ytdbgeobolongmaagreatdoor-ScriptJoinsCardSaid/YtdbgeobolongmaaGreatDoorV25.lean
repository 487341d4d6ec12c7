/- Part of the proof: contracts of the functions that the statements of layer 32 reach. -/
import Derived.Laws.World
import Derived.Orders
import Derived.Test.YtdbgeobolongmaaGreatDoorV24
set_option linter.unusedVariables false
set_option linter.unusedSimpArgs false
set_option maxRecDepth 100000
namespace Go.Proofs.YtdbgeobolongmaaGreatDoor
open Go.RowKit Go.Shelf Go.Proofs Go.OctetPlain Go.PrefixPlain
def encPt (x : Value × Value) : List Value := [x.1, x.2]
theorem encPt_len (x : Value × Value) : (encPt x).length = 2 := rfl
def PartsL (lo : Nat) (w : World) : List (Value × Value) → List Sc.Part → Prop
 | [], [] => True
 | (vs, vr) :: r, p :: ps => PartV lo w.heap.size w p vs vr ∧ PartsL lo w r ps
 | _, _ => False
theorem PartsL.len {lo : Nat} {w : World} : ∀ {r : List (Value × Value)} {ps : List Sc.Part}, PartsL lo w r ps → r.length = ps.length
 | [], [], _ => rfl
 | [], _ :: _, h => h.elim
 | (_, _) :: _, [], h => h.elim
 | (vs, vr) :: r, p :: ps, h => by rw [List.length_cons, List.length_cons, h.2.len]
theorem PartsL.mono {lo : Nat} {w w' : World} (ha : Agree lo w.heap.size w w') (hz : w.heap.size ≤ w'.heap.size) : ∀ {r : List (Value × Value)} {ps : List Sc.Part}, PartsL lo w r ps → PartsL lo w' r ps
 | [], [], _ => trivial
 | [], _ :: _, h => h.elim
 | (_, _) :: _, [], h => h.elim
 | (vs, vr) :: r, p :: ps, h => ⟨h.1.mono ha (Nat.le_refl _) hz, PartsL.mono ha hz h.2⟩
theorem PartsL.get {lo : Nat} {w : World} : ∀ {r : List (Value × Value)} {ps : List Sc.Part}, PartsL lo w r ps → ∀ {i : Nat} {p : Sc.Part} {vs vr : Value}, ps[i]? = some p → r[i]? = some (vs, vr) → PartV lo w.heap.size w p vs vr
 | [], [], _, i, p, vs, vr, h1, h2 => by simp at h1
 | [], _ :: _, h, _, _, _, _, _, _ => h.elim
 | (_, _) :: _, [], h, _, _, _, _, _, _ => h.elim
 | (a, b) :: r, q :: ps, h, 0, p, vs, vr, h1, h2 => by
  simp only [List.getElem?_cons_zero, Option.some.injEq, Prod.mk.injEq] at h1 h2
  obtain ⟨rfl, rfl⟩ := h2
  subst h1
  exact h.1
 | (a, b) :: r, q :: ps, h, i + 1, p, vs, vr, h1, h2 => h.2.get (by simpa using h1) (by simpa using h2)
def CB (lo : Nat) (w : World) (b : Nat) : Prop := lo ≤ b ∧ ∃ t cs, Blk w b t cs
theorem CB.below {lo b B : Nat} {w w' : World} (h : CB lo w b) (hb : Below B w w') (hB : w.heap.size ≤ B) : CB lo w' b := by
 obtain ⟨h1, t, cs, h2⟩ := h
 exact ⟨h1, t, cs, h2.below hb (Nat.lt_of_lt_of_le h2.lt hB)⟩
def PartsAre (lo : Nat) (w : World) (v : Value) (ps : List Sc.Part) : Prop := ∃ rows, PartsL lo w rows ps ∧ SlP (CB lo w) w 2 encPt v rows
theorem PartsAre.below {lo : Nat} {w w' : World} {v : Value} {ps : List Sc.Part} (h : PartsAre lo w v ps) (hb : Below w.heap.size w w') : PartsAre lo w' v ps := by
 obtain ⟨rows, h1, h2⟩ := h
 exact ⟨rows, h1.mono (Agree.of_below hb (Nat.le_refl _)) hb.size, (h2.below hb (Nat.le_refl _)).imp fun b hc => hc.below hb (Nat.le_refl _)⟩
theorem PartsAre.grown {lo X : Nat} {w w' : World} {v : Value} {ps : List Sc.Part} (h : PartsAre lo w v ps) (hg : w.grownBy w' (some X)) (hX : X < lo) : PartsAre lo w' v ps := by
 obtain ⟨rows, h1, h2⟩ := h
 exact ⟨rows, h1.mono (Agree.of_grown hg (by omega)) hg.size, (h2.grown hg (fun b hb => by have := hb.1; simp; omega)).imp fun b hc => by
  obtain ⟨h3, t, cs, h4⟩ := hc
  exact ⟨h3, t, cs, h4.grown hg (by omega)⟩⟩
theorem PartsAre.nil (lo : Nat) (w : World) : PartsAre lo w (.slice none 0 0) [] := ⟨[], trivial, SlP.nil _ _ _⟩
structure Turn (M : Nat) (w w' : World) : Prop where
 g : w.grownBy w' (some M)
 m : ∃ es c, w.heap[M]? = some (.map es c)
theorem Turn.agree {M lo hi : Nat} {w w' : World} (h : Turn M w w') : Agree lo hi w w' := fun k h1 h2 cs t fr hc => by
 obtain ⟨es, c, hm⟩ := h.m
 have : k ≠ M := fun e => by subst e; rw [hm] at hc; cases hc
 exact (h.g.block k (Array.getElem?_eq_some_iff.1 hc).1 (by simpa using this)).trans hc
theorem Turn.blk {M g : Nat} {w w' : World} (h : Turn M w w') {t : TypeId} {cs : Array Value} (hb : Blk w g t cs) : Blk w' g t cs := h.agree (lo := 0) (hi := g + 1) g (Nat.zero_le _) (Nat.lt_succ_self _) cs t (0, 0) hb
theorem Turn.ne {M b lo : Nat} {w w' : World} (h : Turn M w w') (hc : CB lo w b) : b ≠ M := fun e => by
 obtain ⟨-, t, cs, h2⟩ := hc
 obtain ⟨es, c, hm⟩ := h.m
 subst e
 rw [show w.heap[b]? = _ from h2] at hm
 cases hm
theorem PartsAre.turn {lo M : Nat} {w w' : World} {v : Value} {ps : List Sc.Part} (h : PartsAre lo w v ps) (ht : Turn M w w') : PartsAre lo w' v ps := by
 obtain ⟨rows, h1, h2⟩ := h
 exact ⟨rows, h1.mono ht.agree ht.g.size, (h2.grown ht.g (fun b hb => by simp; exact fun e => ht.ne hb e.symm)).imp fun b hc => by
  obtain ⟨h3, t, cs, h4⟩ := hc
  exact ⟨h3, t, cs, ht.blk h4⟩⟩
theorem lit_parts {lo : Nat} {w : World} {rows : List (Value × Value)} {ps : List Sc.Part} (h : PartsL lo w rows ps) (hl : lo ≤ w.heap.size) (hr : rows.length ≤ 1048576) (e : TypeId) (cs : Array Value) (hcs : cs = (flat encPt rows).toArray) :
  PartsAre lo (w.alloc (.cells cs e)) (.slice (some ⟨w.heap.size, 0, none⟩) rows.length rows.length) ps := by
 refine ⟨rows, h.mono (Agree.of_below (belowA w _) (Nat.le_refl _)) (by simp), ?_⟩
 obtain ⟨p, cap, hv, h1, h2, h3⟩ := slr_lit encPt_len w e rows hr cs hcs
 cases hv
 exact ⟨_, _, rfl, Nat.le_refl _, h2, h3, fun a ha _ => by cases ha; exact ⟨hl, e, cs, Blk.new _ _ _⟩⟩
def valElem (v : Value) : Option (DataW Value × List MemPlace) := some (.held v, [])
structure MapOf (lo M : Nat) (w : World) (n : Nat) (ks : List Hp.Wd) : Prop where
 ex : ∃ D, w.ownsMap Tryz.prog 9 valElem M n D ∧ Maps.IsMap D ∧ (∀ x, x ∈ ks → ∃ v, (∀ zd, D.atKey (.string x) zd = .held v) ∧ PartsAre lo w v (Sc.partsOf x)) ∧ (∀ x, x ∉ ks → ∀ zd, D.atKey (.string x) zd = zd)
theorem MapOf.below {lo M n : Nat} {w w' : World} {ks : List Hp.Wd} (h : MapOf lo M w n ks) (hb : Below w.heap.size w w') : MapOf lo M w' n ks := by
 obtain ⟨D, h1, h2, h3, h4⟩ := h.ex
 exact ⟨D, h1.kept (grown_below hb none) (by simp), h2, fun x hx => by obtain ⟨v, a, b⟩ := h3 x hx; exact ⟨v, a, b.below hb⟩, h4⟩
theorem MapOf.made (lo : Nat) (w : World) : MapOf lo w.heap.size (w.alloc (.map #[] 0)) 0 [] :=
 ⟨.map [], World.ownsMap_made w _ _ _, ⟨[], rfl⟩, fun x hx => (by cases hx), fun x _ zd => rfl⟩
theorem MapOf.isMap {lo M n : Nat} {w : World} {ks : List Hp.Wd} (h : MapOf lo M w n ks) : ∃ es c, w.heap[M]? = some (.map es c) := by
 obtain ⟨D, ⟨es, c, h1, -⟩, -⟩ := h.ex
 exact ⟨es, c, h1⟩
theorem wp_ins {lo M n : Nat} {w : World} {ks : List Hp.Wd} {o : Oper} {a : Act} {Q : Exit → Act → World → Prop} {K : Act → World → Prop} (m x v : Operand) (hop : o.op = Op.insert 112 m x v)
  (hm : a.eval m = .map (some M)) (key : Hp.Wd) (hx : a.eval x = .string (str key)) (vv : Value) (hv : a.eval v = vv) (H : MapOf lo M w n ks) (hn : n < 100) (hkl : key.length ≤ 1000) (HP : PartsAre lo w vv (Sc.partsOf key))
  (hK : ∀ w', MapOf lo M w' (n + 1) (ks ++ [key]) → Turn M w w' → K (a.put o.dst undef) w') : o.wp Tryz.prog a w K Q := by
 obtain ⟨D, h1, h2, h3, h4⟩ := H.ex
 have hK2 := key_str key (by omega)
 obtain ⟨w', hrun, r1, r2⟩ := h1.update (Maps.string_keyed Tryz.underlying9) Tryz.underlying112 (by unfold maxLen; omega) hK2 (val := vv) (d := .held vv) (ps := []) rfl
 unfold Oper.wp
 simp [execOp, hop, hm, hx, hv, hrun, Result.andThen]
 have ht : Turn M w w' := ⟨r2, H.isMap⟩
 refine hK w' ⟨_, r1, h2.put _ _, fun y hy => ?_, fun y hy zd => ?_⟩ ht
 ·by_cases he : y = key
  ·subst he
   exact ⟨vv, fun zd => Maps.atKey_put_same h2 (show WideAt.IsKeyLit (.string _) from trivial) _ _, HP.turn ht⟩
  ·have hy' : y ∈ ks := (List.mem_append.1 hy).resolve_right (by simpa using he)
   obtain ⟨u, e1, e2⟩ := h3 y hy'
   exact ⟨u, fun zd => by rw [Maps.atKey_put_other (fun e => he (by cases e; rfl))]; exact e1 zd, e2.turn ht⟩
 ·have he : y ≠ key := fun e => hy (by rw [e]; simp)
  rw [Maps.atKey_put_other (fun e => he (by cases e; rfl))]
  exact h4 y (fun h => hy (List.mem_append_left _ h)) zd
theorem wp_look {lo M n : Nat} {w : World} {ks : List Hp.Wd} {o : Oper} {a : Act} {Q : Exit → Act → World → Prop} {K : Act → World → Prop} (m x : Operand) (hop : o.op = Op.lookup 112 m x false)
  (hm : a.eval m = .map (some M)) (key : Hp.Wd) (hx : a.eval x = .string (str key)) (H : MapOf lo M w n ks) (hkl : key.length ≤ 1073741824) (hks : key ∉ ks → Sc.partsOf key = [])
  (hK : ∀ vv, PartsAre lo w vv (Sc.partsOf key) → K (a.put o.dst vv) w) : o.wp Tryz.prog a w K Q := by
 obtain ⟨D, h1, h2, h3, h4⟩ := H.ex
 have hK2 := key_str key hkl
 obtain ⟨v, ps, hrun, hv⟩ := h1.lookup (Maps.string_keyed Tryz.underlying9) Tryz.underlying112 (z := .slice none 0 0) (Tryz.zeroValue83 w) (zd := .held (.slice none 0 0)) (zp := []) rfl hK2
 unfold Oper.wp
 simp [execOp, hop, hm, hx, hrun, Result.andThen]
 refine hK v ?_
 have hv2 : DataW.held v = D.atKey (.string key) (.held (.slice none 0 0)) := by
  unfold valElem at hv
  injection hv with hv
  exact congrArg Prod.fst hv
 by_cases hm : key ∈ ks
 ·obtain ⟨u, e1, e2⟩ := h3 key hm
  rw [e1] at hv2
  injection hv2 with hv2
  rw [hv2]; exact e2
 ·rw [h4 key hm] at hv2
  injection hv2 with hv2
  rw [hv2, hks hm]
  exact PartsAre.nil _ _
theorem wp_mk {o : Oper} {a : Act} {w : World} {Q : Exit → Act → World → Prop} {K : Act → World → Prop} (lo : Nat) (hop : o.op = Op.makeMap 112 none)
  (hK : MapOf lo w.heap.size (w.alloc (.map #[] 0)) 0 [] → K (a.put o.dst (.map (some w.heap.size))) (w.alloc (.map #[] 0))) : o.wp Tryz.prog a w K Q := by
 unfold Oper.wp
 simp [execOp, hop, run_makeMap, Result.andThen]
 exact hK (MapOf.made _ w)
structure PB (lo : Nat) (w : World) (gA gN gO gQ : Nat) (va ra vn rn vo ro vq rq : Value) : Prop where
 bA : Blk w gA 88 #[va, ra]
 bN : Blk w gN 88 #[vn, rn]
 bO : Blk w gO 88 #[vo, ro]
 bQ : Blk w gQ 88 #[vq, rq]
 A : PartV lo w.heap.size w .A va ra
 N : PartV lo w.heap.size w .N vn rn
 O : PartV lo w.heap.size w .O vo ro
 Q : PartV lo w.heap.size w .Q vq rq
section
variable {lo : Nat} {w w' : World} {gA gN gO gQ : Nat} {va ra vn rn vo ro vq rq : Value}
theorem PB.below (h : PB lo w gA gN gO gQ va ra vn rn vo ro vq rq) (hb : Below w.heap.size w w') : PB lo w' gA gN gO gQ va ra vn rn vo ro vq rq :=
 have a := Agree.of_below (lo := lo) hb (Nat.le_refl _)
 ⟨h.bA.below hb h.bA.lt, h.bN.below hb h.bN.lt, h.bO.below hb h.bO.lt, h.bQ.below hb h.bQ.lt, h.A.mono a (Nat.le_refl _) hb.size, h.N.mono a (Nat.le_refl _) hb.size, h.O.mono a (Nat.le_refl _) hb.size, h.Q.mono a (Nat.le_refl _) hb.size⟩
theorem PB.turn {M : Nat} (h : PB lo w gA gN gO gQ va ra vn rn vo ro vq rq) (ht : Turn M w w') : PB lo w' gA gN gO gQ va ra vn rn vo ro vq rq :=
 have a : Agree lo w.heap.size w w' := ht.agree
 ⟨ht.blk h.bA, ht.blk h.bN, ht.blk h.bO, ht.blk h.bQ, h.A.mono a (Nat.le_refl _) ht.g.size, h.N.mono a (Nat.le_refl _) ht.g.size, h.O.mono a (Nat.le_refl _) ht.g.size, h.Q.mono a (Nat.le_refl _) ht.g.size⟩
end
def allWords : List Hp.Wd := Sc.names ++ [Sc.wIp, Sc.wMpls]
theorem no_parts {x : Hp.Wd} (h : x ∉ allWords) : Sc.partsOf x = [] := Classical.byContradiction fun hn => by
 rcases Sc.parts_word hn with h1 | ⟨-, -, h3⟩
 ·rcases h1 with rfl | rfl <;> exact h (by decide)
 ·exact h (List.mem_append_left _ (List.mem_of_getElem? (Sc.idx_get h3)))
end Go.Proofs.YtdbgeobolongmaaGreatDoor
namespace Go.Proofs.YtdbgeobolongmaaGreatDoor
def unl (L : Array Bool) : Nat := L.toList.count false
theorem unl_set {L : Array Bool} {i : Nat} (h : L.getD i true = false) : unl (L.setIfInBounds i true) + 1 = unl L := by
 have hi : i < L.size := by
  rcases Nat.lt_or_ge i L.size with h' | h'
  ·exact h'
  ·simp [Array.getD, Nat.not_lt.2 h'] at h
 have hv : L.toList[i]'(by simpa using hi) = false := by
  simp [Array.getD, hi] at h
  simpa using h
 have hm : false ∈ L.toList := hv ▸ List.getElem_mem (by simpa using hi)
 have hp := List.count_pos_iff.2 hm
 unfold unl
 rw [Array.toList_setIfInBounds, List.count_set (by simpa using hi)]
 rw [hv]
 have e1 : ((false : Bool) == false) = true := rfl
 have e2 : ((true : Bool) == false) = false := rfl
 rw [e1, e2, if_pos rfl, if_neg (by decide)]
 omega
theorem all_listed {md : Region.Mode} {ops : Array Oper} {L : Array Bool} (hs : L.size = ops.size) (hdag : ∀ (i : Nat) (o : Oper), ops[i]? = some o → ∀ e ∈ o.after, e.on < i) (hr : Region.ready md ops L = []) : ∀ i, i < ops.size → L.getD i false = true := by
 intro i
 induction i using Nat.strongRecOn with
 | ind i ih =>
  intro hi
  cases hl : L.getD i false with
  | true => rfl
  | false =>
   exfalso
   have hmem : i ∈ Region.ready md ops L := mem_ready.2 ⟨by
    have : i < L.size := by omega
    simp [Array.getD, this] at hl ⊢
    exact hl, ops[i], Array.getElem?_eq_getElem hi, fun e he hb => ih e.on (hdag i _ (Array.getElem?_eq_getElem hi) e he) (by have := hdag i _ (Array.getElem?_eq_getElem hi) e he; omega)⟩
   rw [hr] at hmem
   cases hmem
theorem wpAny_inv {P : Program} {ops : Array Oper} {Q : Exit → Act → World → Prop} {md : Region.Mode} (Inv : Array Bool → Act → World → Prop)
  (hdag : ∀ (i : Nat) (o : Oper), ops[i]? = some o → ∀ e ∈ o.after, e.on < i) (hsz : ∀ L a w, Inv L a w → L.size = ops.size)
  (step : ∀ (L : Array Bool) (a : Act) (w : World) (i : Nat) (o : Oper), Inv L a w → ops[i]? = some o → L.getD i true = false → (∀ e ∈ o.after, Region.binds md e = true → L.getD e.on false = true) → wpOp P ops Q i (fun a' w' => Inv (L.setIfInBounds i true) a' w') a w)
  (done : ∀ L a w, Inv L a w → (∀ i, i < ops.size → L.getD i false = true) → Q .normal a w) :
  ∀ (fuel : Nat) (L : Array Bool) (a : Act) (w : World), Inv L a w → unl L ≤ fuel → wpAny P md ops Q fuel L a w
 | 0, L, a, w, h, hf => by
  have hall : ∀ i, i < ops.size → L.getD i false = true := fun i hi => by
   have hi2 : i < L.size := by rw [hsz L a w h]; exact hi
   have h0 : L.toList.count false = 0 := by unfold unl at hf; omega
   have hn := List.count_eq_zero.1 h0
   cases hl : L.getD i false with
   | true => rfl
   | false =>
    exfalso
    simp [Array.getD, hi2] at hl
    exact hn (by rw [← hl]; simp)
  refine ⟨?_, done L a w h hall⟩
  cases hr : Region.ready md ops L with
  | nil => rfl
  | cons i r =>
   have hm : i ∈ Region.ready md ops L := by rw [hr]; exact List.mem_cons_self
   obtain ⟨h1, o, h2, -⟩ := mem_ready.1 hm
   have hi : i < ops.size := (Array.getElem?_eq_some_iff.1 h2).1
   have := hall i hi
   have hi2 : i < L.size := by rw [hsz L a w h]; exact hi
   simp [Array.getD, hi2] at this h1
   rw [this] at h1; cases h1
 | fuel + 1, L, a, w, h, hf => by
  refine ⟨fun hr => done L a w h (all_listed (hsz L a w h) hdag hr), fun i hi => ?_⟩
  obtain ⟨h1, o, h2, h3⟩ := mem_ready.1 hi
  exact wpOp_mono (fun a' w' h' => wpAny_inv Inv hdag hsz step done fuel _ a' w' h' (by have := unl_set h1; omega)) (step L a w i o h h2 h1 h3)
theorem wpOp_plain {P : Program} {ops : Array Oper} {Q : Exit → Act → World → Prop} {i : Nat} {o : Oper} {a : Act} {w : World} {K : Act → World → Prop} (hi : ops[i]? = some o) (hg : o.guard = none) (h : o.wp P a w K Q) : wpOp P ops Q i K a w := by
 unfold wpOp
 simp only [hi]
 rw [if_pos (by unfold Region.wanted; rw [hg])]
 exact Or.inl h
theorem wp_region_inv {P : Program} {ops : Array Oper} {Q : Exit → Act → World → Prop} {id : Nat} {a : Act} {w : World} (hm : P.follows .mixedOrders = true) (Inv : Array Bool → Act → World → Prop)
  (hdag : ∀ (i : Nat) (o : Oper), ops[i]? = some o → ∀ e ∈ o.after, e.on < i) (hsz : ∀ L a w, Inv L a w → L.size = ops.size)
  (step : ∀ (L : Array Bool) (a : Act) (w : World) (i : Nat) (o : Oper), Inv L a w → ops[i]? = some o → L.getD i true = false → (∀ e ∈ o.after, Region.binds .any e = true → L.getD e.on false = true) → wpOp P ops Q i (fun a' w' => Inv (L.setIfInBounds i true) a' w') a w)
  (done : ∀ L a w, Inv L a w → (∀ i, i < ops.size → L.getD i false = true) → Q .normal a w) (h : Inv (Array.replicate ops.size false) a w.drew) : (Code.region id ops true).wp P Q a w :=
 wp_region_any hm (wpAny_inv Inv hdag hsz step done _ _ _ _ h (by unfold unl; simp))
theorem getD_set_iff {L : Array Bool} {i j : Nat} (hi : i < L.size) : (L.setIfInBounds i true).getD j false = true ↔ j = i ∨ L.getD j false = true := by
 by_cases h : j = i
 ·subst h; simp [Array.getD, hi]
 ·rw [getD_set_ne false (fun e => h e.symm)]; simp [h]
end Go.Proofs.YtdbgeobolongmaaGreatDoor
