/- Part of the proof: contracts of the functions that the statements of layer 32 reach. -/
import Derived.Deep.MidRow
import Derived.Test.YtdbgeobolongmaaGreatDoorV10
import Derived.Test.YtdbgeobolongmaaGreatDoorV13
import Derived.Test.YtdbgeobolongmaaGreatDoorV18
import Derived.Test.YtdbgeobolongmaaGreatDoorV20
set_option linter.unusedVariables false
set_option linter.unusedSimpArgs false
set_option maxRecDepth 100000
set_option maxHeartbeats 2000000
namespace Go.Proofs.YtdbgeobolongmaaGreatDoor
open Go.RowKit Go.Shelf Go.Proofs Go.OctetPlain Go.PrefixPlain
def encWy (p : Int × Int) : List Value := [.int .i64 p.1, .int .i64 p.2]
theorem encWy_len (p : Int × Int) : (encWy p).length = 2 := rfl
def pad16 (a : List UInt8) : List UInt8 := (a ++ List.replicate 16 0).take 16
theorem pad16_len (a : List UInt8) : (pad16 a).length = 16 := by simp [pad16]
theorem pad16_eq {a : List UInt8} (h : a.length = 16) : pad16 a = a := by unfold pad16; rw [List.take_append_of_le_length (by omega), List.take_of_length_le (by omega)]
def pfL (p : Pf) : List Value := .bool p.six :: (cellsB (pad16 p.addr) ++ [.int .i64 p.len])
theorem pfL_len (p : Pf) : (pfL p).length = 18 := by simp [pfL, cellsB_len, pad16_len]
theorem pfL_eq {p : Pf} (h : p.addr.length = 16) : (pfL p).toArray = pfA p := by unfold pfL pfA; rw [pad16_eq h]
def hopL (h : Hp.Hop) (l r : Value) : List Value := [.int .i64 h.op, l, .int .i64 h.port, .int .i64 h.backup, r, .bool h.pipe]
theorem hopL_eq (h : Hp.Hop) (l r : Value) : (hopL h l r).toArray = hopA h l r := rfl
def preL (t : Sc.Stp) : List Value := [.bool t.is, .int .i64 t.kind, .int .i64 t.a, .int .i64 t.n, .int .i64 t.owner, .int .i64 t.s1, .int .i64 t.s2]
def pre5 (t : Sc.Stp) : List Value := [.bool t.is, .int .i64 t.kind, .int .i64 t.a, .int .i64 t.n, .int .i64 t.owner]
def postL (t : Sc.Stp) (vw vb : Value) : List Value := [vw, .string (str t.text), .int .i64 t.port, .bool t.mpls, vb]
structure StV where
 t : Sc.Stp
 vl : Value
 vr : Value
 vw : Value
 vb : Value
def stepL (s : StV) : List Value := preL s.t ++ (pfL s.t.pf ++ (hopL s.t.hop s.vl s.vr ++ postL s.t s.vw s.vb))
def stepA (s : StV) : Array Value := (stepL s).toArray
theorem stepL_len (s : StV) : (stepL s).length = 36 := by simp [stepL, preL, pfL_len, hopL, postL]
theorem stepA_size (s : StV) : (stepA s).size = 36 := by simp [stepA, stepL_len]
def setsAt (cs : Array Value) : Nat → List Value → Array Value
 | _, [] => cs
 | o, v :: r => setsAt (cs.setIfInBounds o v) (o + 1) r
theorem Blk.sets : ∀ (vs : List Value) (o : Nat) (w : World) (g : Nat) (t : TypeId) (cs : Array Value), Blk w g t cs → Blk (w.setCells g o vs) g t (setsAt cs o vs)
 | [], o, w, g, t, cs, h => h
 | v :: r, o, w, g, t, cs, h => Blk.sets r (o + 1) _ g t _ (h.set o v)
theorem setsAt_mid : ∀ (vs M A B : List Value), M.length = vs.length → setsAt (A ++ (M ++ B)).toArray A.length vs = (A ++ (vs ++ B)).toArray
 | [], M, A, B, h => by
  have : M = [] := List.eq_nil_of_length_eq_zero h
  subst this; rfl
 | v :: vs, [], A, B, h => by simp at h
 | v :: vs, m :: M, A, B, h => by
  have e1 : (A ++ (m :: M ++ B)).toArray.setIfInBounds A.length v = ((A ++ [v]) ++ (M ++ B)).toArray := by simp
  have ih := setsAt_mid vs M (A ++ [v]) B (by simpa using h)
  rw [setsAt, e1, show A.length + 1 = (A ++ [v]).length by simp, ih]
  simp
theorem Blk.mid {w : World} {g : Nat} {t : TypeId} {A M B vs : List Value} (h : Blk w g t (A ++ (M ++ B)).toArray) (hm : M.length = vs.length) {o : Nat} (ho : o = A.length) : Blk (w.setCells g o vs) g t (A ++ (vs ++ B)).toArray := by
 subst ho
 have := Blk.sets vs A.length w g t _ h
 rwa [setsAt_mid vs M A B hm] at this
theorem Blk.mid1 {w : World} {g : Nat} {t : TypeId} {A B : List Value} {m v : Value} (h : Blk w g t (A ++ ([m] ++ B)).toArray) {o : Nat} (ho : o = A.length) : Blk (w.setCell ⟨g, o, none⟩ v) g t (A ++ ([v] ++ B)).toArray := Blk.mid (vs := [v]) h rfl ho
theorem Blk.rng {w : World} {g : Nat} {t : TypeId} {A M B : List Value} (h : Blk w g t (A ++ (M ++ B)).toArray) {o : Nat} (ho : o = A.length) : w.rangeAt g o M := fun j v hv => by
 subst ho
 rw [h.cell]
 have hj := (List.getElem?_eq_some_iff.1 hv).1
 simp only [List.getElem?_toArray]
 rw [List.getElem?_append_right (by omega), List.getElem?_append_left (by omega), show A.length + j - A.length = j by omega]
 exact hv
theorem Blk.th {w : World} {g : Nat} {t : TypeId} {cs : Array Value} (h : Blk w g t cs) {o n : Nat} (hn : o + n ≤ cs.size) : w.there g o n := fun j hj => ⟨by
 rw [h.cell, Array.getElem?_eq_getElem (by omega)]; rfl, h.frozen' _⟩
structure StAt (w : World) (X : Nat) (s : StV) : Prop where
 b : Blk w X 37 (stepA s)
 p16 : s.t.pf.addr.length = 16
theorem sp_pf (s : StV) : stepL s = preL s.t ++ (pfL s.t.pf ++ (hopL s.t.hop s.vl s.vr ++ postL s.t s.vw s.vb)) := rfl
theorem sp_hop (s : StV) : stepL s = (preL s.t ++ pfL s.t.pf) ++ (hopL s.t.hop s.vl s.vr ++ postL s.t s.vw s.vb) := by simp [stepL]
theorem sp_post (s : StV) : stepL s = (preL s.t ++ (pfL s.t.pf ++ hopL s.t.hop s.vl s.vr)) ++ (postL s.t s.vw s.vb ++ []) := by simp [stepL]
theorem pre_len (s : StV) : (preL s.t ++ (pfL s.t.pf ++ hopL s.t.hop s.vl s.vr)).length = 31 := by simp [preL, pfL_len, hopL]
namespace StAt
variable {w : World} {X : Nat} {s : StV}
theorem lt (h : StAt w X s) : X < w.heap.size := h.b.lt
theorem pf (h : StAt w X s) : w.rangeAt X 7 (pfL s.t.pf) := by
 have hb := h.b
 unfold stepA at hb
 rw [sp_pf] at hb
 exact hb.rng rfl
theorem hop (h : StAt w X s) : w.rangeAt X 25 (hopL s.t.hop s.vl s.vr) := by
 have hb := h.b
 unfold stepA at hb
 rw [sp_hop] at hb
 exact hb.rng (by simp [preL, pfL_len])
theorem post (h : StAt w X s) : w.rangeAt X 31 (postL s.t s.vw s.vb) := by
 have hb := h.b
 unfold stepA at hb
 rw [sp_post] at hb
 exact hb.rng (pre_len s).symm
theorem pre (h : StAt w X s) : w.rangeAt X 0 (preL s.t) := by
 have hb := h.b
 unfold stepA at hb
 exact Blk.rng (A := []) hb rfl
theorem c0 (h : StAt w X s) : w.cell? ⟨X, 0, none⟩ = some (.bool s.t.is) := h.pre 0 _ rfl
theorem c1 (h : StAt w X s) : w.cell? ⟨X, 1, none⟩ = some (.int .i64 s.t.kind) := h.pre 1 _ rfl
theorem c2 (h : StAt w X s) : w.cell? ⟨X, 2, none⟩ = some (.int .i64 s.t.a) := h.pre 2 _ rfl
theorem c3 (h : StAt w X s) : w.cell? ⟨X, 3, none⟩ = some (.int .i64 s.t.n) := h.pre 3 _ rfl
theorem c4 (h : StAt w X s) : w.cell? ⟨X, 4, none⟩ = some (.int .i64 s.t.owner) := h.pre 4 _ rfl
theorem c5 (h : StAt w X s) : w.cell? ⟨X, 5, none⟩ = some (.int .i64 s.t.s1) := h.pre 5 _ rfl
theorem c6 (h : StAt w X s) : w.cell? ⟨X, 6, none⟩ = some (.int .i64 s.t.s2) := h.pre 6 _ rfl
theorem c31 (h : StAt w X s) : w.cell? ⟨X, 31, none⟩ = some s.vw := h.post 0 _ rfl
theorem c32 (h : StAt w X s) : w.cell? ⟨X, 32, none⟩ = some (.string (str s.t.text)) := h.post 1 _ rfl
theorem c33 (h : StAt w X s) : w.cell? ⟨X, 33, none⟩ = some (.int .i64 s.t.port) := h.post 2 _ rfl
theorem c34 (h : StAt w X s) : w.cell? ⟨X, 34, none⟩ = some (.bool s.t.mpls) := h.post 3 _ rfl
theorem c35 (h : StAt w X s) : w.cell? ⟨X, 35, none⟩ = some s.vb := h.post 4 _ rfl
theorem fz (h : StAt w X s) (i : Nat) : w.frozen? ⟨X, i, none⟩ = false := h.b.frozen' i
theorem th (h : StAt w X s) {o n : Nat} (hn : o + n ≤ 36) : w.there X o n := h.b.th (by rw [stepA_size]; exact hn)
theorem below (h : StAt w X s) {w' : World} {B : Nat} (hb : Below B w w') (hX : X < B) : StAt w' X s := ⟨h.b.below hb hX, h.p16⟩
theorem next (h : StAt w X s) {w' : World} (hb : Below w.heap.size w w') : StAt w' X s := h.below hb h.lt
theorem alloc (h : StAt w X s) (o : Obj) : StAt (w.alloc o) X s := ⟨h.b.alloc o, h.p16⟩
theorem setKind (h : StAt w X s) (n : Int) : StAt (w.setCell ⟨X, 1, none⟩ (.int .i64 n)) X { s with t := { s.t with kind := n } } :=
 ⟨Blk.mid1 (A := [.bool s.t.is]) (m := .int .i64 s.t.kind) (B := _) h.b rfl, h.p16⟩
theorem setA (h : StAt w X s) (n : Int) : StAt (w.setCell ⟨X, 2, none⟩ (.int .i64 n)) X { s with t := { s.t with a := n } } :=
 ⟨Blk.mid1 (A := [.bool s.t.is, .int .i64 s.t.kind]) (m := .int .i64 s.t.a) (B := _) h.b rfl, h.p16⟩
theorem setN (h : StAt w X s) (n : Int) : StAt (w.setCell ⟨X, 3, none⟩ (.int .i64 n)) X { s with t := { s.t with n := n } } :=
 ⟨Blk.mid1 (A := [.bool s.t.is, .int .i64 s.t.kind, .int .i64 s.t.a]) (m := .int .i64 s.t.n) (B := _) h.b rfl, h.p16⟩
theorem setO (h : StAt w X s) (n : Int) : StAt (w.setCell ⟨X, 4, none⟩ (.int .i64 n)) X { s with t := { s.t with owner := n } } :=
 ⟨Blk.mid1 (A := [.bool s.t.is, .int .i64 s.t.kind, .int .i64 s.t.a, .int .i64 s.t.n]) (m := .int .i64 s.t.owner) (B := _) h.b rfl, h.p16⟩
theorem setS' (h : StAt w X s) (s' : StV) (m n : Value) (h0 : preL s'.t = pre5 s.t ++ [m, n]) (h2 : s'.t.pf = s.t.pf) (h3 : hopL s'.t.hop s'.vl s'.vr = hopL s.t.hop s.vl s.vr) (h4 : postL s'.t s'.vw s'.vb = postL s.t s.vw s.vb) : StAt (w.setCells X 5 [m, n]) X s' := by
 have hb := h.b
 have e0 : preL s.t = pre5 s.t ++ [.int .i64 s.t.s1, .int .i64 s.t.s2] := rfl
 refine ⟨?_, by rw [h2]; exact h.p16⟩
 have e1 : stepL s = pre5 s.t ++ ([.int .i64 s.t.s1, .int .i64 s.t.s2] ++ (pfL s.t.pf ++ (hopL s.t.hop s.vl s.vr ++ postL s.t s.vw s.vb))) := by rw [sp_pf, e0, List.append_assoc]
 have e2 : stepL s' = pre5 s.t ++ ([m, n] ++ (pfL s.t.pf ++ (hopL s.t.hop s.vl s.vr ++ postL s.t s.vw s.vb))) := by rw [sp_pf, h0, h2, h3, h4, List.append_assoc]
 unfold stepA at hb ⊢
 rw [e1] at hb
 rw [e2]
 exact Blk.mid hb (by rw [List.length_cons, List.length_cons, List.length_cons, List.length_cons]) (by rw [pre5]; rfl)
theorem setS (h : StAt w X s) (m n : Int) : StAt (w.setCells X 5 [.int .i64 m, .int .i64 n]) X { s with t := { s.t with s1 := m, s2 := n } } := h.setS' _ _ _ rfl rfl rfl rfl
theorem setP' (h : StAt w X s) (s' : StV) {p : Pf} (hp : p.addr.length = 16) (h1 : preL s'.t = preL s.t) (h2 : s'.t.pf = p) (h3 : hopL s'.t.hop s'.vl s'.vr = hopL s.t.hop s.vl s.vr) (h4 : postL s'.t s'.vw s'.vb = postL s.t s.vw s.vb) : StAt (w.setCells X 7 (pfA p).toList) X s' := by
 have hb := h.b
 unfold stepA stepL at hb
 have e : (pfA p).toList = pfL p := by rw [← pfL_eq hp]
 refine ⟨?_, by rw [h2]; exact hp⟩
 unfold stepA stepL
 rw [e, h1, h2, h3, h4]
 generalize hopL s.t.hop s.vl s.vr ++ postL s.t s.vw s.vb = R at *
 exact Blk.mid hb (by rw [pfL_len, pfL_len]) rfl
theorem setP (h : StAt w X s) {p : Pf} (hp : p.addr.length = 16) : StAt (w.setCells X 7 (pfA p).toList) X { s with t := { s.t with pf := p } } := h.setP' _ hp rfl rfl rfl rfl
theorem setH' (h : StAt w X s) (s' : StV) (cs : List Value) (hc : cs.length = 6) (h1 : preL s'.t = preL s.t) (h2 : s'.t.pf = s.t.pf) (h3 : hopL s'.t.hop s'.vl s'.vr = cs) (h4 : postL s'.t s'.vw s'.vb = postL s.t s.vw s.vb) : StAt (w.setCells X 25 cs) X s' := by
 have hb := h.b
 unfold stepA at hb
 rw [sp_hop] at hb
 refine ⟨?_, by rw [h2]; exact h.p16⟩
 unfold stepA
 rw [sp_hop, h1, h2, h3, h4]
 have hm : (hopL s.t.hop s.vl s.vr).length = cs.length := by rw [hc]; rfl
 have ho : 25 = (preL s.t ++ pfL s.t.pf).length := by simp [preL, pfL_len]
 generalize hopL s.t.hop s.vl s.vr = M at *
 generalize preL s.t ++ pfL s.t.pf = A at *
 exact Blk.mid hb hm ho
theorem setH (h : StAt w X s) (p : Hp.Hop) (l r : Value) : StAt (w.setCells X 25 (hopA p l r).toList) X { s with t := { s.t with hop := p }, vl := l, vr := r } := h.setH' _ _ rfl rfl rfl rfl rfl
theorem setPost (h : StAt w X s) (s' : StV) (A B : List Value) (m v : Value) (he : postL s.t s.vw s.vb = A ++ ([m] ++ B)) (he' : postL s'.t s'.vw s'.vb = A ++ ([v] ++ B)) (h1 : preL s'.t = preL s.t) (h2 : s'.t.pf = s.t.pf) (h3 : hopL s'.t.hop s'.vl s'.vr = hopL s.t.hop s.vl s.vr) {o : Nat} (ho : o = 31 + A.length) :
  StAt (w.setCell ⟨X, o, none⟩ v) X s' := by
 have hb := h.b
 unfold stepA at hb
 rw [sp_post, he] at hb
 refine ⟨?_, by rw [h2]; exact h.p16⟩
 unfold stepA
 rw [sp_post, he', h1, h2, h3]
 have e : ∀ x : Value, (preL s.t ++ (pfL s.t.pf ++ hopL s.t.hop s.vl s.vr)) ++ (A ++ ([x] ++ B) ++ []) = ((preL s.t ++ (pfL s.t.pf ++ hopL s.t.hop s.vl s.vr)) ++ A) ++ ([x] ++ B) := fun x => by simp
 rw [e] at hb ⊢
 exact Blk.mid1 hb (by rw [List.length_append, pre_len]; exact ho)
theorem setW (h : StAt w X s) (ws : List (Int × Int)) (v : Value) : StAt (w.setCell ⟨X, 31, none⟩ v) X { s with t := { s.t with ways := ws }, vw := v } :=
 h.setPost ({ s with t := { s.t with ways := ws }, vw := v }) [] [.string (str s.t.text), .int .i64 s.t.port, .bool s.t.mpls, s.vb] s.vw v rfl rfl rfl rfl rfl rfl
theorem setT (h : StAt w X s) (x : List UInt8) : StAt (w.setCell ⟨X, 32, none⟩ (.string (str x))) X { s with t := { s.t with text := x } } :=
 h.setPost ({ s with t := { s.t with text := x } }) [s.vw] [.int .i64 s.t.port, .bool s.t.mpls, s.vb] (.string (str s.t.text)) _ rfl rfl rfl rfl rfl rfl
theorem setQ (h : StAt w X s) (n : Int) : StAt (w.setCell ⟨X, 33, none⟩ (.int .i64 n)) X { s with t := { s.t with port := n } } :=
 h.setPost ({ s with t := { s.t with port := n } }) [s.vw, .string (str s.t.text)] [.bool s.t.mpls, s.vb] (.int .i64 s.t.port) _ rfl rfl rfl rfl rfl rfl
theorem setM (h : StAt w X s) (b : Bool) : StAt (w.setCell ⟨X, 34, none⟩ (.bool b)) X { s with t := { s.t with mpls := b } } :=
 h.setPost ({ s with t := { s.t with mpls := b } }) [s.vw, .string (str s.t.text), .int .i64 s.t.port] [s.vb] (.bool s.t.mpls) _ rfl rfl rfl rfl rfl rfl
theorem setB (h : StAt w X s) (b : List UInt8) (v : Value) : StAt (w.setCell ⟨X, 35, none⟩ v) X { s with t := { s.t with bytes := b }, vb := v } :=
 h.setPost ({ s with t := { s.t with bytes := b }, vb := v }) [s.vw, .string (str s.t.text), .int .i64 s.t.port, .bool s.t.mpls] [] s.vb v rfl rfl rfl rfl rfl rfl
end StAt
theorem grown_sets (g : Nat) : ∀ (vs : List Value) (o : Nat) (w : World), w.grownBy (w.setCells g o vs) (some g)
 | [], o, w => grown_refl w _
 | v :: r, o, w => grown_trans (grown_set w g o v) (grown_sets g r (o + 1) _)
structure Inner (q : Nat → Prop) (w : World) (s : StV) : Prop where
 l : SlP q w 1 encI s.vl s.t.hop.labels
 r : SlP q w 1 encI s.vr s.t.hop.repair
 ws : SlP q w 2 encWy s.vw s.t.ways
 b : SlP q w 1 encB s.vb s.t.bytes
namespace Inner
variable {q : Nat → Prop} {w w' : World} {s : StV}
theorem below (h : Inner q w s) {B : Nat} (hb : Below B w w') (hB : w.heap.size ≤ B) : Inner q w' s := ⟨h.l.below hb hB, h.r.below hb hB, h.ws.below hb hB, h.b.below hb hB⟩
theorem grown (h : Inner q w s) {row : Option Nat} (hg : w.grownBy w' row) (hr : ∀ b, q b → row ≠ some b) : Inner q w' s := ⟨h.l.grown hg hr, h.r.grown hg hr, h.ws.grown hg hr, h.b.grown hg hr⟩
theorem imp (h : Inner q w s) {r : Nat → Prop} (hi : ∀ b, q b → r b) : Inner r w s := ⟨h.l.imp hi, h.r.imp hi, h.ws.imp hi, h.b.imp hi⟩
end Inner
end Go.Proofs.YtdbgeobolongmaaGreatDoor
namespace Go.Proofs.YtdbgeobolongmaaGreatDoor
open Go.RowKit Go.Shelf Go.Proofs Go.OctetPlain
structure WdL (w : World) (l : List UInt8) (out : List Hp.Wd) (fr pos : Nat) (vo : Value) (wr : World) : Prop where
 it : wr.heap[w.heap.size]? = some (.stringIter (str l) pos)
 own : wr.ownsRow (w.heap.size + 1) 9 1 vo out.length (flat encS out)
 bel : Below w.heap.size w wr
 fp : fr ≤ pos
 pl : pos ≤ l.length
 ol : out.length ≤ fr
 eq : Hp.spl l = splG out ((l.drop fr).take (pos - fr)) (l.drop pos)
theorem WdL.iter {w wr : World} {l : List UInt8} {out : List Hp.Wd} {fr pos : Nat} {vo : Value} (h : WdL w l out fr pos vo wr) (pos' : Nat) :
  (wr.iterAt w.heap.size (str l) pos').heap[w.heap.size]? = some (.stringIter (str l) pos') ∧ (wr.iterAt w.heap.size (str l) pos').ownsRow (w.heap.size + 1) 9 1 vo out.length (flat encS out) ∧ Below w.heap.size w (wr.iterAt w.heap.size (str l) pos') :=
 ⟨Lib.iterAt_heap wr _ (str l) pos pos' h.it, owns_iter h.own h.it _, Lib.below_iterAt h.bel (Nat.le_refl _) (str l) pos'⟩
theorem WdL.start (w : World) (l : List UInt8) : WdL w l [] 0 0 (.slice none 0 0) (w.alloc (.stringIter (str l) 0)) :=
 ⟨heap_alloc_new w _, World.ownsRow_nil _ _ _ _, belowA w _, Nat.le_refl _, Nat.zero_le _, Nat.zero_le _, by simp [spl_G l]⟩
theorem scr_words (l : List UInt8) (hl : l.length ≤ 1048576) (w : World) :
  Calls Tryz.prog 23 #[.string (str l)] w fun e w' => ∃ v, e = .returned v ∧ w'.ownsRow (w.heap.size + 1) 9 1 v (Hp.spl l).length (flat encS (Hp.spl l)) ∧ Below w.heap.size w w' := by
 have HS0 := qh (WdL.start w l)
 have HX : Hid (∀ i j : Nat, (str l).extract i j = str ((l.drop i).take (j - i))) := qh fun i j => str_cut l i j
 have hsz : (str l).size = l.length := str_size l
 go_enter Tryz.func23, Tryz.ntmps23
 go_wp2_with fail
 go_loopw [3, 4, 5, 6] (fun vo vf _ _ wr => ∃ (out : List Hp.Wd) (fr pos : Nat), vf = .int .i64 (fr : Int) ∧ Hid (WdL w l out fr pos vo wr)) (fun _ _ _ _ wr => l.length - iterPos wr w.heap.size)
 case atStart => exact ⟨[], 0, 0, rfl, HS0⟩
 case round =>
  obtain ⟨out, fr, pos, rfl, HU⟩ := hrel
  have hip : Hid (iterPos wr w.heap.size = pos) := by unfold iterPos; rw [HU.out.it]; exact qh rfl
  have hfp := HU.out.fp
  have hpl := HU.out.pl
  have hol := HU.out.ol
  by_cases hlt : pos < l.length
  ·have hps : pos < (str l).size := by rw [str_size]; exact hlt
   obtain ⟨c, hc0⟩ : ∃ c : UInt8, l[pos]'hlt = c := ⟨_, rfl⟩
   have HDR : Hid (l.drop pos = c :: l.drop (pos + 1)) := qh (by rw [List.drop_eq_getElem_cons hlt, hc0])
   have hgs := get_str l pos hlt
   rw [hc0] at hgs
   by_cases hb : 128 ≤ c.toNat
   ·have hnx := fun ty => Lib.run_next_any_at (P := Tryz.prog) wr w.heap.size (str l) pos ty HU.out.it hps
    obtain ⟨d1, d2, d3, d4, d5⟩ := decode_skip (str l) pos hps (by rw [hgs]; exact hb)
    generalize Utf8.decode (str l) pos = q at d1 d2 d3 d4 d5 hnx
    obtain ⟨q1, q2⟩ := q
    simp only at d1 d2 d3 d4 d5 hnx
    obtain ⟨i1, i2, i3⟩ := HU.out.iter (pos + q2)
    have HN := qh (WdL.mk (fr := fr) i1 i2 i3 (by omega) (by omega) hol (by
     have hd : l.drop pos = (l.drop pos).take q2 ++ l.drop (pos + q2) := by rw [← List.drop_drop, List.take_append_drop]
     rw [HU.out.eq]
     conv => lhs; rw [hd]
     rw [splG_skip _ _ _ _ fun x hx => ?_, cut_more l q2 hfp]
     obtain ⟨i, hi, rfl⟩ := List.getElem_of_mem hx
     have hi2 : i < q2 := by rw [List.length_take] at hi; omega
     have := d5 i hi2
     rw [get_str l (pos + i) (by omega)] at this
     rw [List.getElem_take, List.getElem_drop]
     intro e
     rw [e] at this
     exact absurd this (by decide)))
    have hme : Hid (l.length - iterPos (wr.iterAt w.heap.size (str l) (pos + q2)) w.heap.size < l.length - iterPos wr w.heap.size) := by
     rw [hip.out, (iterAt_pos HU.out.it (pos + q2)).2]; exact qh (by omega)
    have hne : ((q1 : Int) == 32) = false := by simp only [beq_eq_false_iff_ne, ne_eq]; omega
    clear d5 hgs hc0 HDR hb i1 i2 i3
    go_wp2_with fail
    exact ⟨⟨out, fr, pos + q2, rfl, HN⟩, hme.out⟩
   ·have hc1 : (str l)[pos].toNat < 128 := by rw [str_get, hc0]; omega
    have hnx := fun ty => Lib.run_next_ascii_at (P := Tryz.prog) wr w.heap.size (str l) pos ty HU.out.it hps hc1
    have hcc : (str l)[pos].toNat = c.toNat := by rw [str_get, hc0]
    rw [hcc] at hnx
    obtain ⟨i1, i2, i3⟩ := HU.out.iter (pos + 1)
    have hme : Hid (l.length - iterPos (wr.iterAt w.heap.size (str l) (pos + 1)) w.heap.size < l.length - iterPos wr w.heap.size) := by
     rw [hip.out, (iterAt_pos HU.out.it (pos + 1)).2]; exact qh (by omega)
    clear hc1 hcc hgs hc0
    by_cases h32 : c = 32
    ·subst h32
     have HE := HU.out.eq
     rw [HDR.out, splG, if_pos rfl] at HE
     have HE := qh HE
     have hxs := HX.out fr pos
     have HI := qh (And.intro i1 (And.intro i2 i3))
     have hfits : Hid (out.length + 1 ≤ 1048577) := qh (by omega)
     have HQ := qh HI.out.1
     clear i1 i2 i3
     generalize (l.drop fr).take (pos - fr) = part at *
     have hwr : IntKind.i64.wrap ((pos : Int) + 1) = ((pos + 1 : Nat) : Int) := by rw [IntWalk.i64_in _ (by omega)]; omega
     go_wp2_with (at_builtin; go_loud (refine wpList_app elemS rfl (.tmp 15) (.tmp 20) rfl (w.heap.size + 1) u3 _ _ rfl HI.out.2.1 1 1 [.string (str part)] rfl rfl (by simp [Value.oneCell']) (by have := hfits.out; omega) (by have := (Array.getElem?_eq_some_iff.1 HQ.out).1; simp; omega) ?_; intro v4 w4 hown4 _ _ hb4))
     have hsz4 := (Array.getElem?_eq_some_iff.1 HI.out.1).1
     have hit4 : w4.heap[w.heap.size]? = some (.stringIter (str l) (pos + 1)) := (hb4.block _ (by omega)).trans HI.out.1
     have hme2 : l.length - iterPos w4 w.heap.size < l.length - iterPos wr w.heap.size := by
      rw [hip.out]; unfold iterPos; rw [hit4]; simp only; omega
     refine ⟨⟨out ++ [part], pos + 1, pos + 1, rfl, qh (WdL.mk hit4 ?_ (HI.out.2.2.trans (hb4.mono (by omega))) (Nat.le_refl _) hlt (by simp; omega) (by rw [HE.out]; simp))⟩, hme2⟩
     rw [flat_append, List.length_append]
     exact hown4
    ·have hne : ((c.toNat : Int) == 32) = false := by
      simp only [beq_eq_false_iff_ne, ne_eq]
      exact fun h => h32 (UInt8.toNat_inj.1 (by have : c.toNat = 32 := (by omega); rw [this]; rfl))
     have HN := qh (WdL.mk (fr := fr) i1 i2 i3 (by omega) hlt hol (by
      have h1 : (l.drop pos).take 1 = [c] := by rw [HDR.out]; rfl
      rw [HU.out.eq, HDR.out, splG, if_neg h32, ← h1, cut_more l 1 hfp]))
     clear h32 i1 i2 i3
     go_wp2_with fail
     exact ⟨⟨out, fr, pos + 1, rfl, HN⟩, hme.out⟩
  ·obtain rfl : pos = l.length := by omega
   have hps : ¬ l.length < (str l).size := by rw [str_size]; exact hlt
   have hnx := fun ty => Lib.run_next_end_at (P := Tryz.prog) wr w.heap.size (str l) l.length ty HU.out.it hps
   have HE := HU.out.eq
   rw [List.drop_length, splG] at HE
   have HE := qh HE
   have hxs := HX.out fr l.length
   have HO := qh (And.intro HU.out.it (And.intro HU.out.own HU.out.bel))
   have hfits : Hid (out.length + 1 ≤ 1048577) := qh (by omega)
   have HQ := qh HO.out.1
   generalize (l.drop fr).take (l.length - fr) = part at *
   go_wp2_with (at_builtin; go_loud (refine wpList_app elemS rfl (.tmp 24) (.tmp 28) rfl (w.heap.size + 1) u3 _ _ rfl HO.out.2.1 1 1 [.string (str part)] rfl rfl (by simp [Value.oneCell']) (by have := hfits.out; omega) (by have := (Array.getElem?_eq_some_iff.1 HQ.out).1; simp; omega) ?_; intro v4 w4 hown4 _ _ hb4))
   go_ret
   refine ⟨v4, rfl, ?_, HO.out.2.2.trans (hb4.mono (by have := (Array.getElem?_eq_some_iff.1 HO.out.1).1; omega))⟩
   rw [HE.out, flat_append, List.length_append]
   exact hown4
end Go.Proofs.YtdbgeobolongmaaGreatDoor
namespace Go.Proofs.YtdbgeobolongmaaGreatDoor
open Go.RowKit Go.Shelf Go.Proofs Go.OctetPlain Go.PrefixPlain
structure ST (w : World) : Prop where
 p : PT w
 nm : ∀ (i : Nat) (x : Hp.Wd), Sc.names[i]? = some x → w.cell? ⟨0, i, none⟩ = some (.string (str x))
theorem ST.below {w w' : World} (h : ST w) (hb : Below w.heap.size w w') : ST w' := ⟨h.p.below hb, fun i x hx => by
 have := h.nm i x hx
 exact (hb.cell (p := ⟨0, i, none⟩) (World.block_lt_of_cell? w _ this)).trans this⟩
def Agree (lo hi : Nat) (w W : World) : Prop := ∀ k, lo ≤ k → k < hi → ∀ cs t fr, w.heap[k]? = some (.cells cs t fr) → W.heap[k]? = some (.cells cs t fr)
theorem Agree.trans {lo hi lo' hi' : Nat} {w W W' : World} (h : Agree lo hi w W) (h' : Agree lo' hi' W W') (hl : lo' ≤ lo) (hh : hi ≤ hi') : Agree lo hi w W' := fun k h1 h2 cs t fr hc => h' k (by omega) (by omega) cs t fr (h k h1 h2 cs t fr hc)
theorem Agree.of_below {lo hi : Nat} {w W : World} {B : Nat} (h : Below B w W) (hB : hi ≤ B) : Agree lo hi w W := fun k _ h2 cs t fr hc => (h.block k (by omega)).trans hc
theorem Agree.of_grown {lo hi : Nat} {w W : World} {X : Nat} (h : w.grownBy W (some X)) (hX : ¬ (lo ≤ X ∧ X < hi)) : Agree lo hi w W := fun k h1 h2 cs t fr hc => (h.block k (Array.getElem?_eq_some_iff.1 hc).1 (by simp; omega)).trans hc
theorem Agree.blk {lo hi g : Nat} {w W : World} {t : TypeId} {cs : Array Value} (h : Agree lo hi w W) (hb : Blk w g t cs) (h1 : lo ≤ g) (h2 : g < hi) : Blk W g t cs := h g h1 h2 cs t (0, 0) hb
def Fine8 (l : List Hp.Wd) : Prop := l.length ≤ 1048576 ∧ (∀ x ∈ l, x.length ≤ 65536) ∧ (Hp.join l).length ≤ 65536
def SX (X : Nat) (W : World) : Prop := ∃ w0, ST w0 ∧ Below w0.heap.size w0 W ∧ w0.heap.size ≤ X
theorem SX.st {X : Nat} {W : World} (h : SX X W) : ST W := by obtain ⟨w0, a, b, -⟩ := h; exact a.below b
theorem SX.grown {X : Nat} {W W' : World} (h : SX X W) (hg : W.grownBy W' (some X)) : SX X W' := by obtain ⟨w0, a, b, c⟩ := h; exact ⟨w0, a, b.trans (grown_Below hg b.size c), c⟩
def Ent (f : Nat) : Prop := ∀ (args : Array Value) (w : World), (callFunc f args).run Tryz.prog w = .ok (.enter f args) w
def RetRead (Y : Nat → Prop) (p : Sc.Part) (s : StV) (X : Nat) (W : World) (o : Option (Sc.Stp × List Hp.Wd)) (e : Ending) (W' : World) : Prop :=
 W.grownBy W' (some X) ∧ ∃ v', e = .returned (.tuple #[v', .bool o.isSome]) ∧ ∀ y r, o = some (y, r) → ∃ s', s'.t = y ∧ StAt W' X s' ∧ Inner Y W' s' ∧ SlP Y W' 1 encS v' r ∧ (p ≠ .W → s'.vw = s.vw)
theorem RetRead.none {Y : Nat → Prop} {p : Sc.Part} {s : StV} {X : Nat} {W W' : World} (h : W.grownBy W' (some X)) (v : Value) : RetRead Y p s X W none (.returned (.tuple #[v, .bool false])) W' := ⟨h, v, rfl, fun y r h => by cases h⟩
theorem RetRead.some {Y : Nat → Prop} {p : Sc.Part} {s : StV} {X : Nat} {W W' : World} (h : W.grownBy W' (some X)) (v : Value) (s' : StV) (r : List Hp.Wd) (h1 : StAt W' X s') (h2 : Inner Y W' s') (h3 : SlP Y W' 1 encS v r) (h4 : p ≠ .W → s'.vw = s.vw) : RetRead Y p s X W (some (s'.t, r)) (.returned (.tuple #[v, .bool true])) W' :=
 ⟨h, v, rfl, fun y q e => by cases e; exact ⟨s', rfl, h1, h2, h3, h4⟩⟩
def ReadOK (p : Sc.Part) (f : Nat) (caps : Array Value) (lo hi : Nat) (w : World) : Prop :=
 ∀ (W : World) (X : Nat) (s : StV) (v : Value) (l : List Hp.Wd) (Y : Nat → Prop), (∀ b, Y b → b ≠ X) → (∀ b, W.heap.size ≤ b → Y b) → Agree lo hi w W → hi ≤ W.heap.size → SX X W → ¬ (lo ≤ X ∧ X < hi) → StAt W X s → Inner Y W s → (p = .W → s.t.ways = [] ∧ s.vw = .slice none 0 0) → Fine8 l → SlP Y W 1 encS v l →
  Calls Tryz.prog f (#[.pointer (some ⟨X, 0, none⟩), v] ++ caps) W (RetRead Y p s X W (Sc.read p s.t l))
structure SB (t : Sc.Stp) : Prop where
 a : I64 t.a
 n : I64 t.n
 o : I64 t.owner
 s1 : I64 t.s1
 s2 : I64 t.s2
 q : I64 t.port
 pl : I64 t.pf.len
 hop : HB t.hop
 wl : t.ways.length ≤ 1000
 wi : ∀ p ∈ t.ways, I64 p.1 ∧ I64 p.2
 tl : t.text.length ≤ 65536
 bl : t.bytes.length ≤ 65536
def shwA (p : Sc.Part) (t : Sc.Stp) : List Hp.Wd := match p with
 | .H => Hp.spl (Hp.join (showWA t.hop))
 | p => Sc.shw p t
def ShowOK (p : Sc.Part) (f : Nat) (caps : Array Value) (lo hi : Nat) (w : World) : Prop :=
 ∀ (W : World) (X : Nat) (s : StV), Agree lo hi w W → hi ≤ W.heap.size → ST W → StAt W X s → Inner (fun _ => True) W s → SB s.t →
  Calls Tryz.prog f (#[.pointer (some ⟨X, 0, none⟩)] ++ caps) W fun e W' => ∃ v', e = .returned v' ∧ SlR W' 1 encS v' (shwA p s.t) ∧ Below W.heap.size W W'
def PartV (lo hi : Nat) (w : World) (p : Sc.Part) (vs vr : Value) : Prop :=
 ∃ f g cf cg, vs = .func (.func f) #[] cf ∧ vr = .func (.func g) #[] cg ∧ Ent f ∧ Ent g ∧ ShowOK p f cf lo hi w ∧ ReadOK p g cg lo hi w
theorem ReadOK.mono {p : Sc.Part} {f : Nat} {caps : Array Value} {lo hi lo' hi' : Nat} {w w' : World} (h : ReadOK p f caps lo hi w) (ha : Agree lo hi w w') (hl : lo' ≤ lo) (hh : hi ≤ hi') : ReadOK p f caps lo' hi' w' :=
 fun W X s v l Y g1 g2 h1 h2 h3 h4 => h W X s v l Y g1 g2 (ha.trans h1 hl hh) (by omega) h3 (by omega)
theorem ShowOK.mono {p : Sc.Part} {f : Nat} {caps : Array Value} {lo hi lo' hi' : Nat} {w w' : World} (h : ShowOK p f caps lo hi w) (ha : Agree lo hi w w') (hl : lo' ≤ lo) (hh : hi ≤ hi') : ShowOK p f caps lo' hi' w' :=
 fun W X s h1 h2 => h W X s (ha.trans h1 hl hh) (by omega)
theorem PartV.mono {p : Sc.Part} {lo hi lo' hi' : Nat} {w w' : World} {vs vr : Value} (h : PartV lo hi w p vs vr) (ha : Agree lo hi w w') (hl : lo' ≤ lo) (hh : hi ≤ hi') : PartV lo' hi' w' p vs vr := by
 obtain ⟨f, g, cf, cg, e1, e2, e3, e4, h1, h2⟩ := h
 exact ⟨f, g, cf, cg, e1, e2, e3, e4, h1.mono ha hl hh, h2.mono ha hl hh⟩
structure NumAt (p : Sc.Part) (k o : Nat) (get : Sc.Stp → Int) (set : Sc.Stp → Int → Sc.Stp) : Prop where
 pl : p = .A ∨ p = .N ∨ p = .O ∨ p = .Q
 ent : Ent k
 call : ∀ (W : World) (X : Nat), Calls Tryz.prog k #[.pointer (some ⟨X, 0, none⟩)] W fun e W' => e = .returned (.pointer (some ⟨X, o, none⟩)) ∧ W' = W
 cell : ∀ (W : World) (X : Nat) (s : StV), StAt W X s → W.cell? ⟨X, o, none⟩ = some (.int .i64 (get s.t))
 put : ∀ (W : World) (X : Nat) (s : StV) (n : Int), StAt W X s → StAt (W.setCell ⟨X, o, none⟩ (.int .i64 n)) X { s with t := set s.t n }
 same : ∀ (q : Nat → Prop) (W : World) (s : StV) (n : Int), Inner q W s → Inner q W { s with t := set s.t n }
 shw : ∀ t, shwA p t = [Lib.itoa (get t)]
 rd : ∀ t w l, Sc.read p t (w :: l) = (match Sc.num30 w with | some n => some (set t n, l) | none => none)
 rn : ∀ t, Sc.read p t [] = none
 b : ∀ t, SB t → I64 (get t)
theorem numA : NumAt .A 48 2 (·.a) (fun t n => { t with a := n }) := ⟨Or.inl rfl, enters_of Tryz.func48 (by kernel_rfl) rfl, fun W X => by
 go_enter Tryz.func48, Tryz.ntmps48
 go_wp2_with fail
 go_ret
 exact ⟨rfl, rfl⟩, fun W X s h => h.c2, fun W X s n h => h.setA n, fun q W s n h => ⟨h.l, h.r, h.ws, h.b⟩, fun t => rfl, fun t w l => rfl, fun t => rfl, fun t h => h.a⟩
theorem numN : NumAt .N 49 3 (·.n) (fun t n => { t with n := n }) := ⟨Or.inr (Or.inl rfl), enters_of Tryz.func49 (by kernel_rfl) rfl, fun W X => by
 go_enter Tryz.func49, Tryz.ntmps49
 go_wp2_with fail
 go_ret
 exact ⟨rfl, rfl⟩, fun W X s h => h.c3, fun W X s n h => h.setN n, fun q W s n h => ⟨h.l, h.r, h.ws, h.b⟩, fun t => rfl, fun t w l => rfl, fun t => rfl, fun t h => h.n⟩
theorem numO : NumAt .O 50 4 (·.owner) (fun t n => { t with owner := n }) := ⟨Or.inr (Or.inr (Or.inl rfl)), enters_of Tryz.func50 (by kernel_rfl) rfl, fun W X => by
 go_enter Tryz.func50, Tryz.ntmps50
 go_wp2_with fail
 go_ret
 exact ⟨rfl, rfl⟩, fun W X s h => h.c4, fun W X s n h => h.setO n, fun q W s n h => ⟨h.l, h.r, h.ws, h.b⟩, fun t => rfl, fun t w l => rfl, fun t => rfl, fun t h => h.o⟩
theorem numQ : NumAt .Q 51 33 (·.port) (fun t n => { t with port := n }) := ⟨Or.inr (Or.inr (Or.inr rfl)), enters_of Tryz.func51 (by kernel_rfl) rfl, fun W X => by
 go_enter Tryz.func51, Tryz.ntmps51
 go_wp2_with fail
 go_ret
 exact ⟨rfl, rfl⟩, fun W X s h => h.c33, fun W X s n h => h.setQ n, fun q W s n h => ⟨h.l, h.r, h.ws, h.b⟩, fun t => rfl, fun t w l => rfl, fun t => rfl, fun t h => h.q⟩
def boxAt (k : Nat) : Array Value := #[.func (.func k) #[] #[]]
theorem num_show {p : Sc.Part} {k o : Nat} {get : Sc.Stp → Int} {set : Sc.Stp → Int → Sc.Stp} (N : NumAt p k o get set) (lo hi B : Nat) (w : World) (h1 : lo ≤ B) (h2 : B < hi) (hb : Blk w B 110 (boxAt k)) :
  ShowOK p 92 #[.pointer (some ⟨B, 0, none⟩)] lo hi w := by
 intro W X s ha hh ht hs hi' hsb
 have hB := ha.blk hb h1 h2
 have hbc := hB.cell 0
 simp only [boxAt, List.getElem?_toArray, List.getElem?_cons_zero] at hbc
 have HA := qh (N.call W X)
 have hent := N.ent
 unfold Ent at hent
 have HC := N.cell W X s hs
 have HD := qh (octet_Digits (get s.t) (N.b _ hsb) W ht.p.tabs)
 rw [N.shw]
 generalize get s.t = n at *
 simp only [List.append_toArray, List.cons_append, List.nil_append]
 go_enter Tryz.func92, Tryz.ntmps92
 go_wp2_with fail
 refine HA.out.mono ?_
 rintro e w1 ⟨rfl, rfl⟩
 go_wp2_with fail
 refine HD.out.mono ?_
 rintro e w1 ⟨rfl, hb1⟩
 have HB1 := qh hb1
 clear hb1
 go_wp2_with fail
 go_ret
 exact ⟨_, rfl, slr_lit encS_len w1 _ [Lib.itoa n] (by simp) _ rfl, HB1.out.alloc HB1.out.size _⟩
theorem num_read {p : Sc.Part} {k o : Nat} {get : Sc.Stp → Int} {set : Sc.Stp → Int → Sc.Stp} (N : NumAt p k o get set) (lo hi B : Nat) (w : World) (h1 : lo ≤ B) (h2 : B < hi) (hb : Blk w B 110 (boxAt k)) :
  ReadOK p 93 #[.pointer (some ⟨B, 0, none⟩)] lo hi w := by
 intro W X s v l Y hY hN ha hh ht hX hs hin hw hl hv
 replace ht := ht.st
 have hB := ha.blk hb h1 h2
 have hpW : p ≠ .W := by rcases N.pl with h | h | h | h <;> rw [h] <;> simp
 simp only [List.append_toArray, List.cons_append, List.nil_append]
 cases l with
 | nil =>
  rw [N.rn]
  obtain ⟨pp, cap, rfl, c1, c2, hR, hq⟩ := hv
  go_enter Tryz.func93, Tryz.ntmps93
  go_wp2_with fail
  exact bodyPost_ret (v := .tuple #[.slice none 0 0, .bool false]) (by simp [results, Tryz.results93, go_sem]) rfl (RetRead.none (grown_refl _ _) _)
 | cons x r =>
  have HO : Hid (Sc.read p s.t (x :: r) = (Sc.num30 x).map fun n => (set s.t n, r)) := qh (by rw [N.rd]; cases Sc.num30 x <;> rfl)
  generalize Sc.read p s.t (x :: r) = ro at *
  have hxl := hl.2.1 x List.mem_cons_self
  have HN := qh (octet_Number x (by omega) 1073741824 W ht.p.tabs)
  have hbl : B < W.heap.size := hB.lt
  have HBX := qh fun W' (h : Below W.heap.size W W') => hB.below h hbl
  have HA := qh fun W' => N.call W' X
  have hent := N.ent
  unfold Ent at hent
  have HS := qh hs
  have HIn := qh hin
  obtain ⟨pp, cap, rfl, c1, c2, hR, hq⟩ := hv
  simp only [List.length_cons] at c1
  obtain ⟨b, off, rfl, hbl2, hc⟩ := hR.at (i := 0) (by simp)
  have hx := hc 0 (.string (str x)) rfl
  simp only [Nat.zero_mul, Nat.add_zero] at hx
  have hbY := hq _ rfl (by simp)
  have hbq := hY _ hbY
  have HR := qh hR
  have hl1 : r.length + 1 ≤ 1048576 := by have := hl.1; simpa using this
  have hn0 : ((r.length : Int) + 1 == 0) = false := by simp; omega
  clear hc hR hs hin ha hb hB hq ht hl
  unfold Sc.num30 at HO
  generalize number x 1073741824 = on at *
  go_enter Tryz.func93, Tryz.ntmps93
  go_wp2_with fail
  refine HN.out.mono ?_
  rintro e w1 ⟨rfl, hb1⟩
  have hB1 := HBX.out w1 hb1
  have hbc := hB1.cell 0
  simp only [boxAt, List.getElem?_toArray, List.getElem?_cons_zero] at hbc
  have HS1 := qh (HS.out.next hb1)
  have HB1 := qh hb1
  clear hb1 hB1
  go_wp2_with fail
  refine (HA.out w1).mono ?_
  rintro e w2 ⟨rfl, rfl⟩
  have hcx := N.cell _ X s HS1.out
  have hfx := HS1.out.fz o
  have HP := qh (N.put _ X s (on.getD 0) HS1.out)
  have HG : Hid (W.grownBy (w2.setCell ⟨X, o, none⟩ (.int .i64 (on.getD 0))) (some X)) := qh (grown_trans (grown_below HB1.out _) (grown_set _ _ _ _))
  have HV : Hid (RdP (w2.setCell ⟨X, o, none⟩ (.int .i64 (on.getD 0))) 1 encS (some ⟨b, off, none⟩) (x :: r)) := qh (HR.out.grownS HG.out fun a e => by cases e; simp; exact fun h => hbq h.symm)
  have HI2 : Hid (Inner Y (w2.setCell ⟨X, o, none⟩ (.int .i64 (on.getD 0))) { s with t := set s.t (on.getD 0) }) := qh (N.same _ _ _ _ (HIn.out.grown HG.out fun b hb => by simp; exact fun h => hY b hb h.symm))
  have key : ∀ v, SlP Y (w2.setCell ⟨X, o, none⟩ (.int .i64 (on.getD 0))) 1 encS v r → RetRead Y p s X W ro (.returned (.tuple #[v, .bool on.isSome])) (w2.setCell ⟨X, o, none⟩ (.int .i64 (on.getD 0))) := fun v hv => by
   rw [HO.out]
   cases on with
   | none => exact RetRead.none HG.out _
   | some n => exact RetRead.some HG.out v { s with t := set s.t n } r HP.out HI2.out hv fun _ => rfl
  go_wp2_with fail
  ·subst h
   obtain rfl : r = [] := List.eq_nil_of_length_eq_zero (by omega)
   exact bodyPost_ret (v := .tuple #[.slice (some ⟨b, off, none⟩) 0 0, .bool on.isSome]) (by simp [results, Tryz.results93, go_sem]) rfl (key _ (SlP.tailA (by simp) HV.out hbY))
  ·exact bodyPost_ret (v := .tuple #[.slice (some ⟨b, off + 1, none⟩) r.length (cap - 1), .bool on.isSome]) (by simp [results, Tryz.results93, go_sem]) rfl (key _ (SlP.tailB c1 c2 HV.out hbY))
end Go.Proofs.YtdbgeobolongmaaGreatDoor
