/- Part of the proof: ScriptLines, ScriptParses, ScriptShows. -/
import Derived.Test.YtdbgeobolongmaaGreatDoorSA16
import Derived.Test.YtdbgeobolongmaaGreatDoorSA23
import Derived.Test.YtdbgeobolongmaaGreatDoorSA24
set_option linter.unusedVariables false
set_option linter.unusedSimpArgs false
set_option maxRecDepth 100000
set_option maxHeartbeats 4000000
namespace Go.Proofs.YtdbgeobolongmaaGreatDoor
open Go.RowKit Go.Shelf Go.Proofs Go.OctetPlain Go.PrefixPlain
def aV (p : Int × Int) : List Value := [.int .i64 p.1, .int .i64 p.2]
theorem nX (p : Int × Int) : (aV p).length = 2 := rfl
def pad16 (a : List UInt8) : List UInt8 := (a ++ List.replicate 16 0).take 16
theorem pad16_len (a : List UInt8) : (pad16 a).length = 16 := by simp [pad16]
theorem pad16_eq {a : List UInt8} (h : a.length = 16) : pad16 a = a := by unfold pad16; rw [List.take_append_of_le_length om, xY om]
def pfL (p : Pf) : List Value := .bool p.six :: (uS (pad16 p.addr) ++ [.int .i64 p.len])
theorem bT (p : Pf) : (pfL p).length = 18 := by simp [pfL, jH, pad16_len]
theorem zDz {p : Pf} (h : p.addr.length = 16) : (pfL p).toArray = pfA p := by unfold pfL pfA; rw [pad16_eq h]
def hopL (h : Hp.Hop) (l r : Value) : List Value := [.int .i64 h.op, l, .int .i64 h.port, .int .i64 h.backup, r, .bool h.pipe]
theorem zAu (h : Hp.Hop) (l r : Value) : (hopL h l r).toArray = hopA h l r := rfl
def preL (t : Sc.Stp) : List Value := [.bool t.is, .int .i64 t.kind, .int .i64 t.a, .int .i64 t.n, .int .i64 t.owner, .int .i64 t.s1, .int .i64 t.s2]
def pre5 (t : Sc.Stp) : List Value := [.bool t.is, .int .i64 t.kind, .int .i64 t.a, .int .i64 t.n, .int .i64 t.owner]
def sD (t : Sc.Stp) (vw vb : Value) : List Value := [vw, .string (str t.text), .int .i64 t.port, .bool t.mpls, vb]
structure StV where
 t : Sc.Stp
 vl : Value
 vr : Value
 vw : Value
 vb : Value
def uC (s : StV) : List Value := preL s.t ++ (pfL s.t.pf ++ (hopL s.t.hop s.vl s.vr ++ sD s.t s.vw s.vb))
def zY (s : StV) : Array Value := (uC s).toArray
theorem kX (s : StV) : (uC s).length = 36 := by simp [uC, preL, bT, hopL, sD]
theorem zO (s : StV) : (zY s).size = 36 := by simp [zY, kX]
def setsAt (cs : Array Value) : Nat -> List Value -> Array Value
 | _, [] => cs
 | o, v :: r => setsAt (cs.setIfInBounds o v) (o + 1) r
theorem Blk.sets : ∀ (vs : List Value) (o : Nat) (w : World) (g : Nat) (t : TypeId) (cs : Array Value), Blk w g t cs -> Blk (w.setCells g o vs) g t (setsAt cs o vs)
 | [], o, w, g, t, cs, h => h
 | v :: r, o, w, g, t, cs, h => Blk.sets r (o + 1) _ g t _ (h.set o v)
theorem setsAt_mid : ∀ (vs M A B : List Value), M.length = vs.length -> setsAt (A ++ (M ++ B)).toArray A.length vs = (A ++ (vs ++ B)).toArray
 |[], M, A, B, h => by
  have : M = [] := zX h; subst this; rfl
 | v :: vs, [], A, B, h => by simp at h
 |v :: vs, m :: M, A, B, h => by
  have e1 : (A ++ (m :: M ++ B)).toArray.setIfInBounds A.length v = ((A ++ [v]) ++ (M ++ B)).toArray := zi; have ih := setsAt_mid vs M (A ++ [v]) B (by simpa using h); rw [setsAt, e1, show A.length + 1 = (A ++ [v]).length from zi, ih]; simp
theorem Blk.mid {w : World} {g : Nat} {t : TypeId} {A M B vs : List Value} (h : Blk w g t (A ++ (M ++ B)).toArray) (hm : M.length = vs.length) {o : Nat} (ho : o = A.length) : Blk (w.setCells g o vs) g t (A ++ (vs ++ B)).toArray := by
 subst ho; have := Blk.sets vs A.length w g t _ h
 rwa [setsAt_mid vs M A B hm] at this
theorem Blk.mid1 {w : World} {g : Nat} {t : TypeId} {A B : List Value} {m v : Value} (h : Blk w g t (A ++ ([m] ++ B)).toArray) {o : Nat} (ho : o = A.length) : Blk (w.setCell ⟨g, o, none⟩ v) g t (A ++ ([v] ++ B)).toArray := Blk.mid (vs := [v]) h rfl ho
theorem Blk.rng {w : World} {g : Nat} {t : TypeId} {A M B : List Value} (h : Blk w g t (A ++ (M ++ B)).toArray) {o : Nat} (ho : o = A.length) : w.rangeAt g o M := fun j v hv => by
 subst ho; rw [h.cell]; have hj := (zL.1 hv).1; simp only [xD]; rw [vD om, vV om, show A.length + j - A.length = j from om]; exact hv
theorem Blk.th {w : World} {g : Nat} {t : TypeId} {cs : Array Value} (h : Blk w g t cs) {o n : Nat} (hn : o + n <= cs.size) : w.there g o n := fun j hj => ⟨by
 rw [h.cell, kR om]; rfl, h.frozen' _⟩
structure StAt (w : World) (X : Nat) (s : StV) : Prop where
 b : Blk w X 37 (zY s)
 p16 : s.t.pf.addr.length = 16
theorem sp_pf (s : StV) : uC s = preL s.t ++ (pfL s.t.pf ++ (hopL s.t.hop s.vl s.vr ++ sD s.t s.vw s.vb)) := rfl
theorem sp_hop (s : StV) : uC s = (preL s.t ++ pfL s.t.pf) ++ (hopL s.t.hop s.vl s.vr ++ sD s.t s.vw s.vb) := by simp [uC]
theorem zGs (s : StV) : uC s = (preL s.t ++ (pfL s.t.pf ++ hopL s.t.hop s.vl s.vr)) ++ (sD s.t s.vw s.vb ++ []) := by simp [uC]
theorem pre_len (s : StV) : (preL s.t ++ (pfL s.t.pf ++ hopL s.t.hop s.vl s.vr)).length = 31 := by simp [preL, bT, hopL]
namespace StAt
variable {w : World} {X : Nat} {s : StV}
theorem lt (h : StAt w X s) : X < w.heap.size := h.b.lt
theorem pf (h : StAt w X s) : w.rangeAt X 7 (pfL s.t.pf) := by
 have hb := h.b; unfold zY at hb; rw [sp_pf] at hb; exact hb.rng rfl
theorem hop (h : StAt w X s) : w.rangeAt X 25 (hopL s.t.hop s.vl s.vr) := by
 have hb := h.b; unfold zY at hb; rw [sp_hop] at hb; exact hb.rng (by simp [preL, bT])
theorem post (h : StAt w X s) : w.rangeAt X 31 (sD s.t s.vw s.vb) := by
 have hb := h.b; unfold zY at hb; rw [zGs] at hb; exact hb.rng (pre_len s).symm
theorem pre (h : StAt w X s) : w.rangeAt X 0 (preL s.t) := by
 have hb := h.b; unfold zY at hb; exact Blk.rng (A := []) hb rfl
theorem c0 (h : StAt w X s) : w.cell? ⟨X, 0, none⟩ = some (.bool s.t.is) := h.pre 0 _ rfl
theorem c1 (h : StAt w X s) : w.cell? ⟨X, 1, none⟩ = some (.int .i64 s.t.kind) := h.pre 1 _ rfl
theorem c2 (h : StAt w X s) : w.cell? ⟨X, 2, none⟩ = some (.int .i64 s.t.a) := h.pre 2 _ rfl
theorem c3 (h : StAt w X s) : w.cell? ⟨X, 3, none⟩ = some (.int .i64 s.t.n) := h.pre 3 _ rfl
theorem c4 (h : StAt w X s) : w.cell? ⟨X, 4, none⟩ = some (.int .i64 s.t.owner) := h.pre 4 _ rfl
theorem c5 (h : StAt w X s) : w.cell? ⟨X, 5, none⟩ = some (.int .i64 s.t.s1) := h.pre 5 _ rfl
theorem c6 (h : StAt w X s) : w.cell? ⟨X, 6, none⟩ = some (.int .i64 s.t.s2) := h.pre 6 _ rfl
theorem c31 (h : StAt w X s) : w.cell? ⟨X, 31, none⟩ = some s.vw := h.post 0 _ rfl
theorem c32 (h : StAt w X s) : w.cell? ⟨X, 32, none⟩ = some (.string (str s.t.text)) := h.post 1 _ rfl
theorem c33 (h : StAt w X s) : w.cell? ⟨X, 33, none⟩ = some (.int .i64 s.t.port) := h.post 2 _ rfl
theorem c34 (h : StAt w X s) : w.cell? ⟨X, 34, none⟩ = some (.bool s.t.mpls) := h.post 3 _ rfl
theorem c35 (h : StAt w X s) : w.cell? ⟨X, 35, none⟩ = some s.vb := h.post 4 _ rfl
theorem fz (h : StAt w X s) (i : Nat) : w.frozen? ⟨X, i, none⟩ = false := h.b.frozen' i
theorem th (h : StAt w X s) {o n : Nat} (hn : o + n <= 36) : w.there X o n := h.b.th (by rw [zO]; exact hn)
theorem below (h : StAt w X s) {w' : World} {B : Nat} (hb : Below B w w') (hX : X < B) : StAt w' X s := ⟨h.b.below hb hX, h.p16⟩
theorem next (h : StAt w X s) {w' : World} (hb : zW w w') : StAt w' X s := h.below hb h.lt
theorem grown (h : StAt w X s) {w' : World} {g : Nat} (hg : w.grownBy w' (some g)) (hne : X ≠ g) : StAt w' X s := ⟨h.b.grown hg hne, h.p16⟩
theorem alloc (h : StAt w X s) (o : Obj) : StAt (w.alloc o) X s := ⟨h.b.alloc o, h.p16⟩
theorem setKind (h : StAt w X s) (n : Int) : StAt (w.setCell ⟨X, 1, none⟩ (.int .i64 n)) X { s with t := { s.t with kind := n } } :=
 ⟨Blk.mid1 (A := [.bool s.t.is]) (m := .int .i64 s.t.kind) (B := _) h.b rfl, h.p16⟩
theorem setA (h : StAt w X s) (n : Int) : StAt (w.setCell ⟨X, 2, none⟩ (.int .i64 n)) X { s with t := { s.t with a := n } } :=
 ⟨Blk.mid1 (A := [.bool s.t.is, .int .i64 s.t.kind]) (m := .int .i64 s.t.a) (B := _) h.b rfl, h.p16⟩
theorem setN (h : StAt w X s) (n : Int) : StAt (w.setCell ⟨X, 3, none⟩ (.int .i64 n)) X { s with t := { s.t with n := n } } :=
 ⟨Blk.mid1 (A := [.bool s.t.is, .int .i64 s.t.kind, .int .i64 s.t.a]) (m := .int .i64 s.t.n) (B := _) h.b rfl, h.p16⟩
theorem setO (h : StAt w X s) (n : Int) : StAt (w.setCell ⟨X, 4, none⟩ (.int .i64 n)) X { s with t := { s.t with owner := n } } :=
 ⟨Blk.mid1 (A := [.bool s.t.is, .int .i64 s.t.kind, .int .i64 s.t.a, .int .i64 s.t.n]) (m := .int .i64 s.t.owner) (B := _) h.b rfl, h.p16⟩
theorem setS' (h : StAt w X s) (s' : StV) (m n : Value) (h0 : preL s'.t = pre5 s.t ++ [m, n]) (h2 : s'.t.pf = s.t.pf) (h3 : hopL s'.t.hop s'.vl s'.vr = hopL s.t.hop s.vl s.vr) (h4 : sD s'.t s'.vw s'.vb = sD s.t s.vw s.vb) : StAt (w.setCells X 5 [m, n]) X s' := by
 have hb := h.b; have e0 : preL s.t = pre5 s.t ++ [.int .i64 s.t.s1, .int .i64 s.t.s2] := rfl; refine ⟨?_, by rw [h2]; exact h.p16⟩; have e1 : uC s = pre5 s.t ++ ([.int .i64 s.t.s1, .int .i64 s.t.s2] ++ (pfL s.t.pf ++ (hopL s.t.hop s.vl s.vr ++ sD s.t s.vw s.vb))) := by rw [sp_pf, e0, xQ]
 have e2 : uC s' = pre5 s.t ++ ([m, n] ++ (pfL s.t.pf ++ (hopL s.t.hop s.vl s.vr ++ sD s.t s.vw s.vb))) := by rw [sp_pf, h0, h2, h3, h4, xQ]
 unfold zY at hb ⊢; rw [e1] at hb; rw [e2]; exact Blk.mid hb (by rw [zI, zI, zI, zI]) (by rw [pre5]; rfl)
theorem setS (h : StAt w X s) (m n : Int) : StAt (w.setCells X 5 [.int .i64 m, .int .i64 n]) X { s with t := { s.t with s1 := m, s2 := n } } := h.setS' _ _ _ rfl rfl rfl rfl
theorem setP' (h : StAt w X s) (s' : StV) {p : Pf} (hp : p.addr.length = 16) (h1 : preL s'.t = preL s.t) (h2 : s'.t.pf = p) (h3 : hopL s'.t.hop s'.vl s'.vr = hopL s.t.hop s.vl s.vr) (h4 : sD s'.t s'.vw s'.vb = sD s.t s.vw s.vb) : StAt (w.setCells X 7 (pfA p).toList) X s' := by
 have hb := h.b; unfold zY uC at hb; have e : (pfA p).toList = pfL p := by rw [← zDz hp]
 refine ⟨?_, by rw [h2]; exact hp⟩; unfold zY uC; rw [e, h1, h2, h3, h4]; generalize hopL s.t.hop s.vl s.vr ++ sD s.t s.vw s.vb = R at *; exact Blk.mid hb (by rw [bT, bT]) rfl
theorem setP (h : StAt w X s) {p : Pf} (hp : p.addr.length = 16) : StAt (w.setCells X 7 (pfA p).toList) X { s with t := { s.t with pf := p } } := h.setP' _ hp rfl rfl rfl rfl
theorem setH' (h : StAt w X s) (s' : StV) (cs : List Value) (hc : cs.length = 6) (h1 : preL s'.t = preL s.t) (h2 : s'.t.pf = s.t.pf) (h3 : hopL s'.t.hop s'.vl s'.vr = cs) (h4 : sD s'.t s'.vw s'.vb = sD s.t s.vw s.vb) : StAt (w.setCells X 25 cs) X s' := by
 have hb := h.b; unfold zY at hb; rw [sp_hop] at hb; refine ⟨?_, by rw [h2]; exact h.p16⟩; unfold zY; rw [sp_hop, h1, h2, h3, h4]; have hm : (hopL s.t.hop s.vl s.vr).length = cs.length := by rw [hc]; rfl
 have ho : 25 = (preL s.t ++ pfL s.t.pf).length := by simp [preL, bT]
 generalize hopL s.t.hop s.vl s.vr = M at *; generalize preL s.t ++ pfL s.t.pf = A at *; exact Blk.mid hb hm ho
theorem setH (h : StAt w X s) (p : Hp.Hop) (l r : Value) : StAt (w.setCells X 25 (hopA p l r).toList) X { s with t := { s.t with hop := p }, vl := l, vr := r } := h.setH' _ _ rfl rfl rfl rfl rfl
theorem setPost (h : StAt w X s) (s' : StV) (A B : List Value) (m v : Value) (he : sD s.t s.vw s.vb = A ++ ([m] ++ B)) (he' : sD s'.t s'.vw s'.vb = A ++ ([v] ++ B)) (h1 : preL s'.t = preL s.t) (h2 : s'.t.pf = s.t.pf) (h3 : hopL s'.t.hop s'.vl s'.vr = hopL s.t.hop s.vl s.vr) {o : Nat} (ho : o = 31 + A.length) :
  StAt (w.setCell ⟨X, o, none⟩ v) X s' := by
 have hb := h.b; unfold zY at hb; rw [zGs, he] at hb; refine ⟨?_, by rw [h2]; exact h.p16⟩; unfold zY; rw [zGs, he', h1, h2, h3]; have e : ∀ x : Value, (preL s.t ++ (pfL s.t.pf ++ hopL s.t.hop s.vl s.vr)) ++ (A ++ ([x] ++ B) ++ []) = ((preL s.t ++ (pfL s.t.pf ++ hopL s.t.hop s.vl s.vr)) ++ A) ++ ([x] ++ B) := fun x => zi; rw [e] at hb ⊢; exact Blk.mid1 hb (by rw [zG, pre_len]; exact ho)
theorem setW (h : StAt w X s) (ws : List (Int × Int)) (v : Value) : StAt (w.setCell ⟨X, 31, none⟩ v) X { s with t := { s.t with ways := ws }, vw := v } :=
 h.setPost ({ s with t := { s.t with ways := ws }, vw := v }) [] [.string (str s.t.text), .int .i64 s.t.port, .bool s.t.mpls, s.vb] s.vw v rfl rfl rfl rfl rfl rfl
theorem setT (h : StAt w X s) (x : List UInt8) : StAt (w.setCell ⟨X, 32, none⟩ (.string (str x))) X { s with t := { s.t with text := x } } :=
 h.setPost ({ s with t := { s.t with text := x } }) [s.vw] [.int .i64 s.t.port, .bool s.t.mpls, s.vb] (.string (str s.t.text)) _ rfl rfl rfl rfl rfl rfl
theorem setQ (h : StAt w X s) (n : Int) : StAt (w.setCell ⟨X, 33, none⟩ (.int .i64 n)) X { s with t := { s.t with port := n } } :=
 h.setPost ({ s with t := { s.t with port := n } }) [s.vw, .string (str s.t.text)] [.bool s.t.mpls, s.vb] (.int .i64 s.t.port) _ rfl rfl rfl rfl rfl rfl
theorem setM (h : StAt w X s) (b : Bool) : StAt (w.setCell ⟨X, 34, none⟩ (.bool b)) X { s with t := { s.t with mpls := b } } :=
 h.setPost ({ s with t := { s.t with mpls := b } }) [s.vw, .string (str s.t.text), .int .i64 s.t.port] [s.vb] (.bool s.t.mpls) _ rfl rfl rfl rfl rfl rfl
theorem setB (h : StAt w X s) (b : List UInt8) (v : Value) : StAt (w.setCell ⟨X, 35, none⟩ v) X { s with t := { s.t with bytes := b }, vb := v } :=
 h.setPost ({ s with t := { s.t with bytes := b }, vb := v }) [s.vw, .string (str s.t.text), .int .i64 s.t.port, .bool s.t.mpls] [] s.vb v rfl rfl rfl rfl rfl rfl
end StAt
theorem tO (g : Nat) : ∀ (vs : List Value) (o : Nat) (w : World), w.grownBy (w.setCells g o vs) (some g)
 | [], o, w => jM w _
 | v :: r, o, w => uK (vH w g o v) (tO g r (o + 1) _)
structure xX (q : Nat -> Prop) (w : World) (s : StV) : Prop where
 l : SlP q w 1 encI s.vl s.t.hop.labels
 r : SlP q w 1 encI s.vr s.t.hop.repair
 ws : SlP q w 2 aV s.vw s.t.ways
 b : SlP q w 1 encB s.vb s.t.bytes
namespace xX
variable {q : Nat -> Prop} {w w' : World} {s : StV}
theorem below (h : xX q w s) {B : Nat} (hb : Below B w w') (hB : w.heap.size <= B) : xX q w' s := ⟨h.l.below hb hB, h.r.below hb hB, h.ws.below hb hB, h.b.below hb hB⟩
theorem grown (h : xX q w s) {row : Option Nat} (hg : w.grownBy w' row) (hr : ∀ b, q b -> row ≠ some b) : xX q w' s := ⟨h.l.grown hg hr, h.r.grown hg hr, h.ws.grown hg hr, h.b.grown hg hr⟩
theorem imp (h : xX q w s) {r : Nat -> Prop} (hi : ∀ b, q b -> r b) : xX r w s := ⟨h.l.imp hi, h.r.imp hi, h.ws.imp hi, h.b.imp hi⟩
end xX
open Go.Proofs.Tryz
structure ST (w : World) : Prop where
 p : PT w
 nm : ∀ (i : Nat) (x : Hp.Wd), Sc.names[i]? = some x -> w.cell? ⟨0, i, none⟩ = some (.string (str x))
theorem ST.below {w w' : World} (h : ST w) (hb : zW w w') : ST w' := ⟨h.p.below hb, fun i x hx => by
 have := h.nm i x hx; exact (hb.cell (p := ⟨0, i, none⟩) (sW w _ this)).trans this⟩
theorem ST.next {w w' : World} (h : ST w) {B : Nat} (hb : Below B w w') (hB : w.heap.size <= B) : ST w' := h.below (hb.mono hB)
def Agree (lo hi : Nat) (w W : World) : Prop := ∀ k, lo <= k -> k < hi -> ∀ cs t fr, w.heap[k]? = some (.cells cs t fr) -> W.heap[k]? = some (.cells cs t fr)
theorem Agree.trans {lo hi lo' hi' : Nat} {w W W' : World} (h : Agree lo hi w W) (h' : Agree lo' hi' W W') (hl : lo' <= lo) (hh : hi <= hi') : Agree lo hi w W' := fun k h1 h2 cs t fr hc => h' k om om cs t fr (h k h1 h2 cs t fr hc)
theorem Agree.of_below {lo hi : Nat} {w W : World} {B : Nat} (h : Below B w W) (hB : hi <= B) : Agree lo hi w W := fun k _ h2 cs t fr hc => (h.block k om).trans hc
theorem Agree.of_grown {lo hi : Nat} {w W : World} {X : Nat} (h : w.grownBy W (some X)) (hX : ¬ (lo <= X /\ X < hi)) : Agree lo hi w W := fun k h1 h2 cs t fr hc => (h.block k (xB.1 hc).1 zo).trans hc
theorem Agree.blk {lo hi g : Nat} {w W : World} {t : TypeId} {cs : Array Value} (h : Agree lo hi w W) (hb : Blk w g t cs) (h1 : lo <= g) (h2 : g < hi) : Blk W g t cs := h g h1 h2 cs t (0, 0) hb
def aU (l : List Hp.Wd) : Prop := l.length <= 1048576 /\ (∀ x ∈ l, x.length <= 65536) /\ (Hp.join l).length <= 65536
def SX (X : Nat) (W : World) : Prop := ∃ w0, ST w0 /\ zW w0 W /\ w0.heap.size <= X
theorem SX.st {X : Nat} {W : World} (h : SX X W) : ST W := by obtain ⟨w0, a, b, -⟩ := h; exact a.below b
theorem SX.grown {X : Nat} {W W' : World} (h : SX X W) (hg : W.grownBy W' (some X)) : SX X W' := by obtain ⟨w0, a, b, c⟩ := h; exact ⟨w0, a, b.trans (jB hg b.size c), c⟩
theorem SX.below {X : Nat} {W W' : World} (h : SX X W) {B : Nat} (hb : Below B W W') (hB : X <= B) : SX X W' := by obtain ⟨w0, a, b, c⟩ := h; exact ⟨w0, a, b.trans (hb.mono om), c⟩
def Ent (f : Nat) : Prop := ∀ (args : Array Value) (w : World), (callFunc f args).run prog w = .ok (.enter f args) w
def uF (Y : Nat -> Prop) (p : Sc.Part) (s : StV) (X : Nat) (W : World) (o : Option (Sc.Stp × List Hp.Wd)) (e : Ending) (W' : World) : Prop :=
 W.grownBy W' (some X) /\ ∃ v', e = .returned (.tuple #[v', .bool o.isSome]) /\ ∀ y r, o = some (y, r) -> ∃ s', s'.t = y /\ StAt W' X s' /\ xX Y W' s' /\ SlP Y W' 1 encS v' r /\ (p ≠ .W -> s'.vw = s.vw)
theorem uF.none {Y : Nat -> Prop} {p : Sc.Part} {s : StV} {X : Nat} {W W' : World} (h : W.grownBy W' (some X)) (v : Value) : uF Y p s X W none (.returned (.tuple #[v, .bool false])) W' := ⟨h, v, rfl, fun y r h => by cases h⟩
theorem uF.some {Y : Nat -> Prop} {p : Sc.Part} {s : StV} {X : Nat} {W W' : World} (h : W.grownBy W' (some X)) (v : Value) (s' : StV) (r : List Hp.Wd) (h1 : StAt W' X s') (h2 : xX Y W' s') (h3 : SlP Y W' 1 encS v r) (h4 : p ≠ .W -> s'.vw = s.vw) : uF Y p s X W (some (s'.t, r)) (.returned (.tuple #[v, .bool true])) W' :=
 ⟨h, v, rfl, fun y q e => by cases e; exact ⟨s', rfl, h1, h2, h3, h4⟩⟩
def wN (p : Sc.Part) (f : Nat) (caps : Array Value) (lo hi : Nat) (w : World) : Prop :=
 ∀ (W : World) (X : Nat) (s : StV) (v : Value) (l : List Hp.Wd) (Y : Nat -> Prop), (∀ b, Y b -> b ≠ X) -> (∀ b, W.heap.size <= b -> Y b) -> Agree lo hi w W -> hi <= W.heap.size -> SX X W -> ¬ (lo <= X /\ X < hi) -> StAt W X s -> xX Y W s -> (p = .W -> s.t.ways = [] /\ s.vw = .slice none 0 0) -> aU l -> SlP Y W 1 encS v l ->
  Calls prog f (#[.pointer (some ⟨X, 0, none⟩), v] ++ caps) W (uF Y p s X W (Sc.read p s.t l))
structure SB (t : Sc.Stp) : Prop where
 a : I64 t.a
 n : I64 t.n
 o : I64 t.owner
 s1 : I64 t.s1
 s2 : I64 t.s2
 q : I64 t.port
 pl : I64 t.pf.len
 hop : HB t.hop
 wl : t.ways.length <= 1000
 wi : ∀ p ∈ t.ways, I64 p.1 /\ I64 p.2
 tl : t.text.length <= 65536
 bl : t.bytes.length <= 65536
def shwA (p : Sc.Part) (t : Sc.Stp) : List Hp.Wd := match p with
 | .H => Hp.spl (Hp.join (fG t.hop))
 | p => Sc.shw p t
def wL (p : Sc.Part) (f : Nat) (caps : Array Value) (lo hi : Nat) (w : World) : Prop :=
 ∀ (W : World) (X : Nat) (s : StV), Agree lo hi w W -> hi <= W.heap.size -> ST W -> StAt W X s -> xX (fun _ => True) W s -> SB s.t ->
  Calls prog f (#[.pointer (some ⟨X, 0, none⟩)] ++ caps) W fun e W' => ∃ v', e = .returned v' /\ SlR W' 1 encS v' (shwA p s.t) /\ zW W W'
def kK (lo hi : Nat) (w : World) (p : Sc.Part) (vs vr : Value) : Prop :=
 ∃ f g cf cg, vs = .func (.func f) #[] cf /\ vr = .func (.func g) #[] cg /\ Ent f /\ Ent g /\ wL p f cf lo hi w /\ wN p g cg lo hi w
theorem wN.mono {p : Sc.Part} {f : Nat} {caps : Array Value} {lo hi lo' hi' : Nat} {w w' : World} (h : wN p f caps lo hi w) (ha : Agree lo hi w w') (hl : lo' <= lo) (hh : hi <= hi') : wN p f caps lo' hi' w' :=
 fun W X s v l Y g1 g2 h1 h2 h3 h4 => h W X s v l Y g1 g2 (ha.trans h1 hl hh) om h3 om
theorem wL.mono {p : Sc.Part} {f : Nat} {caps : Array Value} {lo hi lo' hi' : Nat} {w w' : World} (h : wL p f caps lo hi w) (ha : Agree lo hi w w') (hl : lo' <= lo) (hh : hi <= hi') : wL p f caps lo' hi' w' :=
 fun W X s h1 h2 => h W X s (ha.trans h1 hl hh) om
theorem kK.mono {p : Sc.Part} {lo hi lo' hi' : Nat} {w w' : World} {vs vr : Value} (h : kK lo hi w p vs vr) (ha : Agree lo hi w w') (hl : lo' <= lo) (hh : hi <= hi') : kK lo' hi' w' p vs vr := by
 obtain ⟨f, g, cf, cg, e1, e2, e3, e4, h1, h2⟩ := h; exact ⟨f, g, cf, cg, e1, e2, e3, e4, h1.mono ha hl hh, h2.mono ha hl hh⟩
structure NumAt (p : Sc.Part) (k o : Nat) (get : Sc.Stp -> Int) (set : Sc.Stp -> Int -> Sc.Stp) : Prop where
 pl : p = .A ∨ p = .N ∨ p = .O ∨ p = .Q
 ent : Ent k
 call : ∀ (W : World) (X : Nat), Calls prog k #[.pointer (some ⟨X, 0, none⟩)] W fun e W' => e = .returned (.pointer (some ⟨X, o, none⟩)) /\ W' = W
 cell : ∀ (W : World) (X : Nat) (s : StV), StAt W X s -> W.cell? ⟨X, o, none⟩ = some (.int .i64 (get s.t))
 put : ∀ (W : World) (X : Nat) (s : StV) (n : Int), StAt W X s -> StAt (W.setCell ⟨X, o, none⟩ (.int .i64 n)) X { s with t := set s.t n }
 same : ∀ (q : Nat -> Prop) (W : World) (s : StV) (n : Int), xX q W s -> xX q W { s with t := set s.t n }
 shw : ∀ t, shwA p t = [Lib.itoa (get t)]
 rd : ∀ t w l, Sc.read p t (w :: l) = (match Sc.num30 w with | some n => some (set t n, l) | none => none)
 rn : ∀ t, Sc.read p t [] = none
 b : ∀ t, SB t -> I64 (get t)
theorem numA : NumAt .A 48 2 (·.a) (fun t n => { t with a := n }) := ⟨Or.inl rfl, enters_of func48 kf rfl, fun W X => by
 go_enter func48, ntmps48
 go_wp2
 go_ret
 exact ⟨rfl, rfl⟩, fun W X s h => h.c2, fun W X s n h => h.setA n, fun q W s n h => ⟨h.l, h.r, h.ws, h.b⟩, fun t => rfl, fun t w l => rfl, fun t => rfl, fun t h => h.a⟩
theorem numN : NumAt .N 49 3 (·.n) (fun t n => { t with n := n }) := ⟨Or.inr (Or.inl rfl), enters_of func49 kf rfl, fun W X => by
 go_enter func49, ntmps49
 go_wp2
 go_ret
 exact ⟨rfl, rfl⟩, fun W X s h => h.c3, fun W X s n h => h.setN n, fun q W s n h => ⟨h.l, h.r, h.ws, h.b⟩, fun t => rfl, fun t w l => rfl, fun t => rfl, fun t h => h.n⟩
theorem numO : NumAt .O 50 4 (·.owner) (fun t n => { t with owner := n }) := ⟨Or.inr (Or.inr (Or.inl rfl)), enters_of func50 kf rfl, fun W X => by
 go_enter func50, ntmps50
 go_wp2
 go_ret
 exact ⟨rfl, rfl⟩, fun W X s h => h.c4, fun W X s n h => h.setO n, fun q W s n h => ⟨h.l, h.r, h.ws, h.b⟩, fun t => rfl, fun t w l => rfl, fun t => rfl, fun t h => h.o⟩
theorem numQ : NumAt .Q 51 33 (·.port) (fun t n => { t with port := n }) := ⟨Or.inr (Or.inr (Or.inr rfl)), enters_of func51 kf rfl, fun W X => by
 go_enter func51, ntmps51
 go_wp2
 go_ret
 exact ⟨rfl, rfl⟩, fun W X s h => h.c33, fun W X s n h => h.setQ n, fun q W s n h => ⟨h.l, h.r, h.ws, h.b⟩, fun t => rfl, fun t w l => rfl, fun t => rfl, fun t h => h.q⟩
def boxAt (k : Nat) : Array Value := #[.func (.func k) #[] #[]]
theorem num_show {p : Sc.Part} {k o : Nat} {get : Sc.Stp -> Int} {set : Sc.Stp -> Int -> Sc.Stp} (N : NumAt p k o get set) (lo hi B : Nat) (w : World) (h1 : lo <= B) (h2 : B < hi) (hb : Blk w B 110 (boxAt k)) :
  wL p 92 #[.pointer (some ⟨B, 0, none⟩)] lo hi w := by
 intro W X s ha hh ht hs hi' hsb; have hB := ha.blk hb h1 h2; have hbc := hB.cell 0; simp only [boxAt, xD, xA] at hbc; have HA := qh (N.call W X); have hent := N.ent; unfold Ent at hent; have HC := N.cell W X s hs; have HD := qh (jJ (get s.t) (N.b _ hsb) W ht.p.tabs); rw [N.shw]; generalize get s.t = n at *; simp only [uJ, yC, yJ]
 go_enter func92, ntmps92
 go_wp2_with fail
 refine zU HA.o ?_; go_wp2_with fail
 refine zT HD.o fun w1 hb1 => ?_; have HB1 := qh hb1; clear hb1
 go_wp2
 go_ret
 exact ⟨_, rfl, rF vU w1 _ [Lib.itoa n] zi _ rfl, HB1.o.alloc HB1.o.size _⟩
theorem num_read {p : Sc.Part} {k o : Nat} {get : Sc.Stp -> Int} {set : Sc.Stp -> Int -> Sc.Stp} (N : NumAt p k o get set) (lo hi B : Nat) (w : World) (h1 : lo <= B) (h2 : B < hi) (hb : Blk w B 110 (boxAt k)) :
  wN p 93 #[.pointer (some ⟨B, 0, none⟩)] lo hi w := by
 intro W X s v l Y hY hN ha hh ht hX hs hin hw hl hv; replace ht := ht.st; have hB := ha.blk hb h1 h2; have hpW : p ≠ .W := by rcases N.pl with h | h | h | h <;> rw [h] <;> simp
 simp only [uJ, yC, yJ]
 cases l with
 |nil =>
  rw [N.rn]; obtain ⟨pp, cap, rfl, c1, c2, hR, hq⟩ := hv
  go_enter func93, ntmps93
  go_wp2_with fail
  exact zC (v := .tuple #[.slice none 0 0, .bool false]) (by simp [results, results93, go_sem]) rfl (uF.none (jM _ _) _)
 |cons x r =>
  have HO : Hid (Sc.read p s.t (x :: r) = (Sc.num30 x).map fun n => (set s.t n, r)) := qh (by rw [N.rd]; cases Sc.num30 x <;> rfl); generalize Sc.read p s.t (x :: r) = ro at *; have hxl := hl.2.1 x yH; have HN := qh (fP x om 1073741824 W ht.p.tabs); have hbl : B < W.heap.size := hB.lt; have HBX := qh fun W' (h : zW W W') => hB.below h hbl; have HA := qh fun W' => N.call W' X; have hent := N.ent; unfold Ent at hent; have HS := qh hs; have HIn := qh hin; obtain ⟨pp, cap, rfl, c1, c2, hR, hq⟩ := hv; simp only [zI] at c1; obtain ⟨b, off, rfl, hbl2, hc⟩ := hR.at (i := 0) zi; have hx := hc 0 (.string (str x)) rfl; simp only [jP, xN] at hx; have hbY := hq _ rfl zi; have hbq := hY _ hbY; have HR := qh hR; have hl1 : r.length + 1 <= 1048576 := by have := hl.1; simpa using this
  have hn0 : ((r.length : Int) + 1 == 0) = false := zo; clear hc hR hs hin ha hb hB hq ht hl; unfold Sc.num30 at HO; generalize number x 1073741824 = on at *
  go_enter func93, ntmps93
  go_wp2_with fail
  refine zT HN.o fun w1 hb1 => ?_; have hB1 := HBX.o w1 hb1; have hbc := hB1.cell 0; simp only [boxAt, xD, xA] at hbc; have HS1 := qh (HS.o.next hb1); have HB1 := qh hb1; clear hb1 hB1; go_wp2_with fail
  refine (HA.o w1).mono ?_; rintro e w2 ⟨rfl, rfl⟩; have hcx := N.cell _ X s HS1.o; have hfx := HS1.o.fz o; have HP := qh (N.put _ X s (on.getD 0) HS1.o); have HG : Hid (W.grownBy (w2.setCell ⟨X, o, none⟩ (.int .i64 (on.getD 0))) (some X)) := qh (uK (uE HB1.o _) (vH _ _ _ _)); have HV : Hid (RdP (w2.setCell ⟨X, o, none⟩ (.int .i64 (on.getD 0))) 1 encS (some ⟨b, off, none⟩) (x :: r)) := qh (HR.o.grownS HG.o fun a e => by cases e; simp; exact fun h => hbq h.symm); have HI2 : Hid (xX Y (w2.setCell ⟨X, o, none⟩ (.int .i64 (on.getD 0))) { s with t := set s.t (on.getD 0) }) := qh (N.same _ _ _ _ (HIn.o.grown HG.o fun b hb => by simp; exact fun h => hY b hb h.symm))
  have key : ∀ v, SlP Y (w2.setCell ⟨X, o, none⟩ (.int .i64 (on.getD 0))) 1 encS v r -> uF Y p s X W ro (.returned (.tuple #[v, .bool on.isSome])) (w2.setCell ⟨X, o, none⟩ (.int .i64 (on.getD 0))) := fun v hv => by
   rw [HO.o]
   cases on with
   | none => exact uF.none HG.o _
   | some n => exact uF.some HG.o v { s with t := set s.t n } r HP.o HI2.o hv fun _ => rfl
  go_wp2_with fail
  ·subst h
   obtain rfl : r = [] := zX om; exact zC (v := .tuple #[.slice (some ⟨b, off, none⟩) 0 0, .bool on.isSome]) (by simp [results, results93, go_sem]) rfl (key _ (SlP.tailA zi HV.o hbY))
  ·exact zC (v := .tuple #[.slice (some ⟨b, off + 1, none⟩) r.length (cap - 1), .bool on.isSome]) (by simp [results, results93, go_sem]) rfl (key _ (SlP.tailB c1 c2 HV.o hbY))
def twoA (c : UInt8) (x : Hp.Wd) : Int := (Sc.num30 (Lib.cut x [c]).1).getD 0
def twoB (c : UInt8) (x : Hp.Wd) : Int := (Sc.num30 (Lib.cut x [c]).2.1).getD 0
theorem two_flag (c : UInt8) (x : Hp.Wd) : (Sc.two c x).isSome = ((Lib.cut x [c]).2.2 && (Sc.num30 (Lib.cut x [c]).1).isSome && (Sc.num30 (Lib.cut x [c]).2.1).isSome) := by
 unfold Sc.two
 cases Sc.num30 (Lib.cut x [c]).1 with
 | none => simp
 |some a => cases Sc.num30 (Lib.cut x [c]).2.1 with
  | none => simp
  | some b => cases (Lib.cut x [c]).2.2 <;> simp
theorem two_val {c : UInt8} {x : Hp.Wd} {p : Int × Int} (h : Sc.two c x = some p) : p = (twoA c x, twoB c x) := by
 unfold Sc.two at h; unfold twoA twoB
 cases h1 : Sc.num30 (Lib.cut x [c]).1 with
 | none => rw [h1] at h; simp at h
 |some a => cases h2 : Sc.num30 (Lib.cut x [c]).2.1 with
  | none => rw [h1, h2] at h; simp at h
  |some b =>
   rw [h1, h2] at h; simp only at h
   split at h
   ·injection h with h; rw [← h]; rfl
   ·cases h
theorem cut_len (c : UInt8) (x : Hp.Wd) : (Lib.cut x [c]).1.length <= x.length /\ (Lib.cut x [c]).2.1.length <= x.length := by
 by_cases h : c ∈ x
 ·obtain ⟨s, t, rfl, hs⟩ := Sc.mem_first h
  rw [zCi _ hs]; simp; omega
 ·rw [zCj h]; simp
theorem scr_two (c : UInt8) (x : Hp.Wd) (hx : x.length <= 1000000) (W : World) (ht : ST W) :
  zCB 97 #[.string (str x), .string ⟨#[c]⟩] W (.tuple #[.int .i64 (twoA c x), .int .i64 (twoB c x), .bool (Sc.two c x).isSome]) := by
 obtain ⟨m, hm⟩ := ht.p.ct.ml; have hcon := Any.strings_Cut { Tryz.cut with } (str x) ⟨#[c]⟩ m W (by rw [zZ]; omega) hm; change Calls prog 135 _ _ _ at hcon; have HC : Hid (Calls prog 135 #[.string (str x), .string ⟨#[c]⟩] W fun e w' => e = .returned (.tuple #[.string (str (Lib.cut x [c]).1), .string (str (Lib.cut x [c]).2.1), .bool (Lib.cut x [c]).2.2]) /\ ∃ n, w' = W.drewN n) := hcon; have hcl := cut_len c x; rw [two_flag]; unfold twoA twoB Sc.num30; have HN1 := qh fun w (h : zW W w) => fP (Lib.cut x [c]).1 om 1073741824 w (ht.p.tabs.next h zn); have HN2 := qh fun w (h : zW W w) => fP (Lib.cut x [c]).2.1 om 1073741824 w (ht.p.tabs.next h zn); clear ht hm hcon hcl; generalize (Lib.cut x [c]).1 = u at *; generalize (Lib.cut x [c]).2.1 = v at *; generalize (Lib.cut x [c]).2.2 = is at *; generalize number u 1073741824 = a at *; generalize number v 1073741824 = b at *
 go_enter func97, ntmps97
 go_wp2_with fail
 refine HC.o.mono ?_; rintro e w1 ⟨rfl, n, rfl⟩; go_wp2_with fail
 refine (HN1.o _ (below_drewN zb n)).mono ?_; rintro e w2 ⟨rfl, hb2⟩; have HB2 := qh ((below_drewN (xE W.heap.size W) n).trans (hb2.mono zi)); clear hb2; go_wp2_with fail
 refine zT (HN2.o _ HB2.o) fun w3 hb3 => ?_; have HB3 := qh (HB2.o.trans (hb3.mono HB2.o.size)); clear hb3
 cases is <;> cases a <;> cases b <;> (go_wp2_with fail; exact zC (v := .tuple #[_, _, _]) (by simp [results, results97, go_sem]; try (exact ⟨rfl, rfl, rfl⟩)) rfl ⟨rfl, HB3.o⟩)
structure StS (W0 : World) (X : Nat) (s : StV) (W : World) : Prop where
 S : StAt W X s
 bel : zW W0 W
theorem StS.next {W0 W W' : World} {X : Nat} {s : StV} (h : StS W0 X s W) (hb : zW W W') : StS W0 X s W' := ⟨h.S.next hb, h.bel.trans (hb.mono h.bel.size)⟩
theorem StS.drew {W0 W : World} {X : Nat} {s : StV} (h : StS W0 X s W) : StS W0 X s W.drew := h.next zb.drew
theorem spans_show (lo hi : Nat) (w : World) : wL .S 95 #[] lo hi w := by
 intro W X s ha hh ht hs hi' hsb; have HD1 := qh fun W' (h : zW W W') => jJ s.t.s1 hsb.s1 W' (ht.p.tabs.next h zn); have HD2 := qh fun W' (h : zW W W') => jJ s.t.s2 hsb.s2 W' (ht.p.tabs.next h zn); have HS0 : Hid (StS W X s W) := qh ⟨hs, xE _ _⟩; have HE : Hid (shwA .S s.t = [Lib.itoa s.t.s1 ++ 45 :: Lib.itoa s.t.s2]) := qh rfl; rw [HE.o]; have hA : ∀ a b : List UInt8, str a ++ ⟨#[45]⟩ ++ str b = str (a ++ 45 :: b) := fun a b => by rw [show (⟨#[45]⟩ : ByteArray) = str [45] from rfl, xJ, xJ]; simp
 have hl1 := Lib.itoa_length_le _ hsb.s1.1 hsb.s1.2; have hl2 := Lib.itoa_length_le _ hsb.s2.1 hsb.s2.2; clear ha hh ht hs hi' hsb HE; generalize Lib.itoa s.t.s1 = d1 at *; generalize Lib.itoa s.t.s2 = d2 at *; have z1 : ¬ 9223372036854775807 < (str d1).size + 1 := by rw [zZ]; omega
 have z2 : ¬ 9223372036854775807 < (str d1).size + 1 + (str d2).size := by rw [zZ, zZ]; omega
 have z3 : ¬ 9223372036854775807 < (str d1 ++ ⟨#[45]⟩).size + (str d2).size := by rw [yN, zZ, zZ]; show ¬ _ < _ + 1 + _; omega
 clear hl1 hl2; simp only [uJ, vC]
 go_enter func95, ntmps95
 go_wp2_with fail
 refine yB (S := StS W X s) kf HS0.o.drew (fun hHeld => ?_); refine kq 0 ?_; refine kq 1 ?_; refine kq 2 ?_; refine kq 3 ?_; refine kq 4 ?_; refine kh 5 (fun w h => h.S.c5) ?_; refine kq 8 ?_; refine kq 9 ?_; refine kq 10 ?_; refine kq 11 ?_; refine kq 12 ?_; refine kh 13 (fun w h => h.S.c6) ?_; refine zS 6 fun K hK => ?_; go_simp; refine zT (HD1.o _ hHeld.bel) fun w1 hb1 => ?_; have HV1 := hHeld.next hb1; go_wp2_with fail
 refine zK hK (HV1) fun hHeld => ?_; clear hK K; refine kq 7 ?_; refine zS 14 fun K hK => ?_; go_simp; refine zT (HD2.o _ hHeld.bel) fun w2 hb2 => ?_; have HV2 := hHeld.next hb2; go_wp2_with fail
 refine zK hK (HV2) fun hHeld => ?_; clear hK K; refine kq 15 ?_; refine zS 16 fun K hK => ?_; go_simp; refine zK hK (hHeld.next (yD _ _)) fun hHeld => ?_; clear hK K; refine kq 17 ?_; refine zD ?_
 go_wp2
 go_ret
 exact ⟨_, rfl, rF vU w2 _ [d1 ++ 45 :: d2] zi _ rfl, hHeld.bel⟩
theorem spans_read (lo hi : Nat) (w : World) : wN .S 96 #[] lo hi w := by
 intro W X s v l Y hY hN ha hh ht hX hs hin hw hl hv; replace ht := ht.st; simp only [uJ, vC]
 cases l with
 |nil =>
  have HO : Hid (Sc.read .S s.t [] = none) := qh rfl; rw [HO.o]; obtain ⟨pp, cap, rfl, c1, c2, hR, hq⟩ := hv
  go_enter func96, ntmps96
  go_wp2_with fail
  exact zC (v := .tuple #[.slice none 0 0, .bool false]) (by simp [results, results96, go_sem]) rfl (uF.none (jM _ _) _)
 |cons x r =>
  have HO : Hid (Sc.read .S s.t (x :: r) = (Sc.two 45 x).map fun n => ({ s.t with s1 := n.1, s2 := n.2 }, r)) := qh (by simp only [Sc.read]; cases Sc.two 45 x <;> rfl); generalize Sc.read .S s.t (x :: r) = ro at *; have hxl := hl.2.1 x yH; have HN := qh (scr_two 45 x om W ht); have HT := qh (fun p => two_val (c := 45) (x := x) (p := p)); have HS := qh hs; have HIn := qh hin; obtain ⟨pp, cap, rfl, c1, c2, hR, hq⟩ := hv; simp only [zI] at c1; obtain ⟨b, off, rfl, hbl2, hc⟩ := hR.at (i := 0) zi; have hx := hc 0 (.string (str x)) rfl; simp only [jP, xN] at hx; have hbY := hq _ rfl zi; have hbq := hY _ hbY; have HR := qh hR; have hl1 : r.length + 1 <= 1048576 := by have := hl.1; simpa using this
  have hn0 : ((r.length : Int) + 1 == 0) = false := zo; clear hc hR hs hin ha hq ht hl; generalize twoA 45 x = A at *; generalize twoB 45 x = B at *; generalize Sc.two 45 x = on at *; have infoSp : (prog.info? 23).map (·.size) = some 2 := kf
  go_enter func96, ntmps96
  go_wp2_with fail
  refine zT HN.o fun w2 hb2 => ?_; have HS2 := qh (HS.o.next hb2); have HB2 := qh hb2; clear hb2; have hth := HS2.o.th (o := 5) (n := 2) om; have HP := qh (HS2.o.setS A B); have HG : Hid (W.grownBy (w2.setCells X 5 [.int .i64 A, .int .i64 B]) (some X)) := qh (uK (uE HB2.o _) (tO _ _ _ _)); have HV : Hid (RdP (w2.setCells X 5 [.int .i64 A, .int .i64 B]) 1 encS (some ⟨b, off, none⟩) (x :: r)) := qh (HR.o.grownS HG.o fun a e => by cases e; simp; exact fun h => hbq h.symm); have HI2 : Hid (xX Y (w2.setCells X 5 [.int .i64 A, .int .i64 B]) { s with t := { s.t with s1 := A, s2 := B } }) := qh (by have h9 := HIn.o.grown HG.o (fun b hb => by simp; exact fun h => hY b hb h.symm); exact ⟨h9.l, h9.r, h9.ws, h9.b⟩)
  have key : Hid (∀ v, SlP Y (w2.setCells X 5 [.int .i64 A, .int .i64 B]) 1 encS v r -> uF Y .S s X W ro (.returned (.tuple #[v, .bool on.isSome])) (w2.setCells X 5 [.int .i64 A, .int .i64 B])) := qh fun v hv => by
   rw [HO.o]
   cases on with
   | none => exact uF.none HG.o _
   |some n =>
    obtain rfl := HT.o n rfl; exact uF.some HG.o v { s with t := { s.t with s1 := A, s2 := B } } r HP.o HI2.o hv fun _ => rfl
  have hone : (#[Value.int .i64 A, Value.int .i64 B] : Array Value).all (·.oneCell') = true := by simp [Value.oneCell']
  have HTH := qh hth; have HON := qh hone; have HIS := qh infoSp; clear hone hth infoSp HI2 HP HG HO HT HIn HS HS2 HR
  go_wp2_with (refine wpList_store_mid rfl _ _ _ rfl X 5 #[.int .i64 A, .int .i64 B] rfl rfl HTH.o HIS.o HON.o ?_)
  ·subst_vars
   obtain rfl : r = [] := zX om; exact zC (v := .tuple #[.slice (some ⟨b, off, none⟩) 0 0, .bool on.isSome]) (by simp [results, results96, go_sem]) rfl (key.o _ (SlP.tailA zi HV.o hbY))
  ·exact zC (v := .tuple #[.slice (some ⟨b, off + 1, none⟩) r.length (cap - 1), .bool on.isSome]) (by simp [results, results96, go_sem]) rfl (key.o _ (SlP.tailB c1 c2 HV.o hbY))
theorem infoPL {p : Pf} (h : p.addr.length = 16) : (prog.info? 26).map (·.size) = some (pfA p).toList.length := by rw [bK, rE h]; exact infoP
theorem StAt.pfA {w : World} {X : Nat} {s : StV} (h : StAt w X s) : w.rangeAt X 7 (Go.Proofs.YtdbgeobolongmaaGreatDoor.pfA s.t.pf).toList := by
 have := h.pf; rw [← zDz h.p16]; exact this
theorem prefixes_show (lo hi : Nat) (w : World) : wL .P 104 #[] lo hi w := by
 intro W X s ha hh ht hs hi' hsb; have HE : Hid (shwA .P s.t = [fC s.t.pf]) := qh rfl; rw [HE.o]; have HR := qh hs.pfA; have HI := qh (infoPL hs.p16); have HC := qh (pfx_Show s.t.pf hs.p16 hsb.pl W ht.p); have HU := qh underlying26; clear ha hh ht hs hi' hsb HE; generalize Go.Proofs.YtdbgeobolongmaaGreatDoor.pfA s.t.pf = pa at *; generalize fC s.t.pf = sp at *; simp only [uJ, vC]
 go_enter func104, ntmps104
 go_wp2_with (refine vF rfl _ _ rfl X 7 rfl pa.toList _ HR.o HU.o rfl HI.o ?_)
 refine zT HC.o fun w1 hb1 => ?_; have HB1 := qh hb1; clear hb1
 go_wp2
 go_ret
 exact ⟨_, rfl, rF vU w1 _ [sp] zi _ rfl, HB1.o.alloc HB1.o.size _⟩
theorem zDr (h : Hp.Hop) (l r : Value) : (prog.info? 29).map (·.size) = some (hopL h l r).length := kf
theorem hops_show (lo hi : Nat) (w : World) : wL .H 98 #[] lo hi w := by
 intro W X s ha hh ht hs hi' hsb; have HE : Hid (shwA .H s.t = Hp.spl (Hp.join (fG s.t.hop))) := qh rfl; rw [HE.o]; have HR := qh hs.hop; have HI := qh (zDr s.t.hop s.vl s.vr); have HC := qh (hop_ShowA s.t.hop hsb.hop s.vl s.vr W ht.p.tabs ⟨by have := hsb.hop.n1; omega, by have := hsb.hop.n2; omega, hi'.l.sl, hi'.r.sl⟩); have HU := qh underlying29
 have HL : Hid ((Hp.join (fG s.t.hop)).length <= 1048576) := qh (by
  have h1 := zBt hsb.hop; have h2 := zDe _ h1.2; omega)
 clear ha hh ht hs hi' hsb HE; rw [← zAu] at HC; generalize hopL s.t.hop s.vl s.vr = pa at *; generalize Hp.join (fG s.t.hop) = sp at *; have HW := qh fun W => zEa sp HL.o W; simp only [uJ, vC]
 go_enter func98, ntmps98
 go_wp2_with (refine vF rfl _ _ rfl X 25 rfl pa _ HR.o HU.o rfl HI.o ?_)
 refine zT HC.o fun w1 hb1 => ?_; have HB1 := qh hb1; clear hb1; go_wp2_with fail
 refine (HW.o w1).mono ?_; rintro e w2 ⟨v2, rfl, ho2, hb2⟩; have HB2 := qh (HB1.o.trans (hb2.mono HB1.o.size)); have HO2 := qh (SlR.of_owns vU ho2); clear hb2 ho2
 go_wp2
 go_ret
 exact ⟨_, rfl, HO2.o, HB2.o⟩
theorem texts_show (lo hi : Nat) (w : World) : wL .T 109 #[] lo hi w := by
 intro W X s ha hh ht hs hi' hsb; have HE : Hid (shwA .T s.t = [s.t.text]) := qh rfl; rw [HE.o]; have c32 := hs.c32; clear ha hh ht hs hi' hsb HE; simp only [uJ, vC]
 go_enter func109, ntmps109
 go_wp2
 go_ret
 exact ⟨_, rfl, rF vU W _ [s.t.text] zi _ rfl, zb.alloc zn _⟩
theorem packets_show (lo hi : Nat) (w : World) : wL .B 112 #[] lo hi w := by
 intro W X s ha hh ht hs hi' hsb; have HE : Hid (shwA .B s.t = [if s.t.bytes = [] then [45] else hex s.t.bytes]) := qh rfl; rw [HE.o]; have c35 := hs.c35; have HC := qh (octet_Hex s.t.bytes (by have := hsb.bl; omega) s.vb W hi'.b.sl); obtain ⟨p, cap, hv, d1, d2, hR, -⟩ := hi'.b; rw [hv] at c35 HC; have hbl := hsb.bl; clear ha hh ht hs hi' hsb HE hv hR; simp only [uJ, vC]
 by_cases h0 : s.t.bytes = []
 ·rw [zN h0]
  have hn0 : s.t.bytes.length = 0 := by rw [h0]; rfl
  rw [hn0] at c35
  go_enter func112, ntmps112
  go_wp2
  go_ret
  exact ⟨_, rfl, rF vU W _ [[45]] zi _ rfl, zb.alloc zn _⟩
 ·rw [zH h0]
  have hn0 : 0 < s.t.bytes.length := kU.2 h0; have hn1 : ((s.t.bytes.length : Int) == 0) = false := zo; clear h0; generalize hex s.t.bytes = hx at *
  go_enter func112, ntmps112
  go_wp2_with fail
  refine zT HC.o fun w1 hb1 => ?_; have HB1 := qh hb1; clear hb1
  go_wp2
  go_ret
  exact ⟨_, rfl, rF vU w1 _ [hx] zi _ rfl, HB1.o.alloc HB1.o.size _⟩
theorem elemWy : tY prog 30 131 2 16 := .mk underlying30 (z := .agg #[.int .i64 0, .int .i64 0]) kf om om rfl
theorem RdP.atW {w : World} {p : Option Addr} {xs : List (Int × Int)} (h : RdP w 2 aV p xs) {i : Nat} (hi : i < xs.length) :
  ∃ b off, p = some ⟨b, off, none⟩ /\ b < w.heap.size /\ w.cell? ⟨b, off + i * 2, none⟩ = some (.int .i64 xs[i].1) /\ w.cell? ⟨b, off + i * 2 + 1, none⟩ = some (.int .i64 xs[i].2) := by
 obtain ⟨b, off, h1, h2, h3⟩ := h.at hi; exact ⟨b, off, h1, h2, h3 0 _ rfl, h3 1 _ rfl⟩
theorem owns_ne {w : World} {base : Nat} {e : TypeId} {size : Nat} {v : Value} {n : Nat} {xs : List Value} (h : w.ownsRow base e size v n xs) {g : Nat} (hg : w.heap.size <= g) : v.ownBlock ≠ some g := by
 rcases h.2 with h0 | ⟨k, cap, cur, hv, hb, hk, r⟩
 ·rw [h0.1]; simp [Value.ownBlock]
 ·rw [hv]
  have := (xB.1 hk).1; simp only [Value.ownBlock, qR, uX]; omega
structure WyS (W0 : World) (g : Nat) (a b : Int) (W : World) : Prop where
 box : Blk W g 131 #[.int .i64 a, .int .i64 b]
 bel : zW W0 W
theorem WyS.next {W0 W W' : World} {g : Nat} {a b : Int} (h : WyS W0 g a b W) (hb : zW W W') : WyS W0 g a b W' := ⟨h.box.below hb h.box.lt, h.bel.trans (hb.mono h.bel.size)⟩
theorem lit_rd {α : Type} {enc : α -> List Value} {k : Nat} (hk : ∀ x, (enc x).length = k) (w : World) (e : TypeId) (xs : List α) (hl : xs.length <= 1048576) (cs : Array Value) (hcs : cs = (flat enc xs).toArray) :
  RdP (w.alloc (.cells cs e)) k enc (some ⟨w.heap.size, 0, none⟩) xs := by
 obtain ⟨p, cap, hv, -, -, hR⟩ := rF hk w e xs hl cs hcs
 cases hv; exact hR
theorem Blk.grownO {w w' : World} {k : Nat} {t : TypeId} {cs : Array Value} {ob : Option Nat} (h : Blk w k t cs) (hg : w.grownBy w' ob) (hne : ob ≠ some k) : Blk w' k t cs := (hg.block k h.lt hne.symm).trans h
theorem wp_app_slG {α : Type} {P : Program} {w : World} {o : Oper} {a : Act} {K : Act -> World -> Prop} {Q : Exit -> Act -> World -> Prop} {t e : TypeId} {size bytes : Nat} (hE : tY P t e size bytes) (s x : Operand)
  (ho : o.op = .call { callee := .builtin .append, args := #[s, x], argTypes := #[t, t] })
  (base : Nat) (v : Value) (n : Nat) (xs : List Value) (hs : a.eval s = v) (hown : w.ownsRow base e size v n xs)
  (enc : α -> List Value) (hk : ∀ x, (enc x).length = size) (p : Option Addr) (c : Nat) (ys : List α) (hx : a.eval x = .slice p ys.length c) (hr : RdP w size enc p ys) (h1 : ∀ y, ∀ u ∈ enc y, u.oneCell' = true)
  (hsm : n + ys.length <= 1099511627776) (hbase : base <= w.heap.size)
  (h : ∀ v' w', w'.ownsRow base e size v' (n + ys.length) (xs ++ flat enc ys) -> w.grownBy w' v.ownBlock -> K (a.put o.dst v') w') : o.wp P a w K Q := by
 have hE' := hE; obtain ⟨ht, hb, hsz, i, z, hi, hz, hsize, hby, hzs⟩ := hE
 cases p with
 |none =>
  have h0 := hr.1 rfl; have hys : ys = [] := zX h0; subst hys; have hrun := wJ (ty := o.type) w hE' hown c; unfold Oper.wp execOp; simp only [xI] at hx; simp only [ho, resolve, invoke, builtin, kS, qN, jA, jF, yM, xH, hs, hx, hrun]; exact h v w (by simpa [flat] using hown) (jM _ _)
 |some ad =>
  have hnews : ∀ j u, (flat enc ys)[j]? = some u -> w.cell? (ad.add j) = some u := by
   intro j u hu; have hjl : j < (flat enc ys).length := (zL.1 hu).1; rw [aI hk] at hjl; have hi' : j / size < ys.length := zBe (by rw [bM]; exact hjl); obtain ⟨hsp, _, hcell⟩ := hr.2 ad rfl (Nat.ne_of_gt (nJ (yQ _) hi')); have hm : j % size < (enc ys[j / size]).length := by rw [hk]; exact zDm _ hsz
   have hfl := oF hk (zA hi') (zA hm); have hj : j / size * size + j % size = j := by rw [bM]; exact Nat.div_add_mod j size
   rw [hj, hu] at hfl; have := hcell _ _ (zA hi') _ _ ((zA hm).trans hfl.symm); rw [← this]
   congr 1
   unfold Addr.add
   split
   ·rename_i h0; subst h0; cases ad; simp_all
   ·cases ad; simp only [Addr.mk.injEq, rX, pQ]; omega
  obtain ⟨v', w', hr', h2, h3, h4, h5⟩ := run_append_own_at (P := P) w base t o.type e i z size bytes ht hi hz hsize hby hzs hsz v n xs hown ad ys.length c (flat enc ys) (aI hk ys) hnews (by intro u hu; simp only [flat, List.mem_flatMap] at hu; obtain ⟨y, _, hy⟩ := hu; exact h1 y u hy) (by unfold maxLen; omega) (oJ hsm hb) hbase; unfold Oper.wp execOp; simp only [ho, resolve, invoke, builtin, kS, qN, jA, jF, yM, xH, hs, hx, hr']; exact h v' w' h2 h3
theorem ways_show (lo hi : Nat) (w : World) : wL .W 102 #[] lo hi w := by
 intro W X s ha hh ht hs hi' hsb; have HT := qh ht; have HE : Hid (shwA .W s.t = s.t.ways.map Sc.star) := qh rfl; rw [HE.o]; have HWI := qh hsb.wi; have hwl := hsb.wl; have c31 := hs.c31; obtain ⟨p, cap, hv, d1, d2, hR, -⟩ := hi'.ws; rw [hv] at c31; have HR := qh hR; have hA : ∀ a b : List UInt8, str a ++ ⟨#[42]⟩ ++ str b = str (a ++ 42 :: b) := fun a b => by rw [show (⟨#[42]⟩ : ByteArray) = str [42] from rfl, xJ, xJ]; simp
 generalize s.t.ways = L at *; clear ha hh ht hs hi' hsb HE hv hR; simp only [uJ, vC]
 go_enter func102, ntmps102
 go_wp2_with fail
 go_loopw [3, 5, 12] (fun vo _ vi wr => ∃ k : Nat, vi = .int .i64 k /\ k <= L.length /\ Hid (wr.ownsRow W.heap.size 9 1 vo k (flat encS ((L.take k).map Sc.star))) /\ Hid (zW W wr)) (fun _ _ vi _ => L.length - (intOf vi).toNat)
 case atStart => exact ⟨0, rfl, yQ _, qh (xL _ _ _ _), qh zb⟩
 case round =>
  obtain ⟨k, rfl, hk, HO, HB⟩ := hrel
  by_cases hlt : k < L.length
  ·obtain ⟨b, off, rfl, hbs, hx0, hx1⟩ := (HR.o.below HB.o zn).atW hlt
   have HTK : Hid ((L.take (k + 1)).map Sc.star = (L.take k).map Sc.star ++ [Sc.star L[k]]) := qh (by rw [yA hlt, jT]; rfl); have hnb := HWI.o L[k] (yU hlt); generalize L[k] = y at *; obtain ⟨a, c⟩ := y; simp only at hx0 hx1 hnb; have HD1 := qh fun W' (h : zW W W') => jJ a hnb.1 W' (HT.o.p.tabs.next h zn); have HD2 := qh fun W' (h : zW W W') => jJ c hnb.2 W' (HT.o.p.tabs.next h zn); have hl1 := Lib.itoa_length_le _ hnb.1.1 hnb.1.2; have hl2 := Lib.itoa_length_le _ hnb.2.1 hnb.2.2; have HST : Hid (Sc.star (a, c) = Lib.itoa a ++ 42 :: Lib.itoa c) := qh rfl; rw [HST.o] at HTK; generalize Lib.itoa a = e1 at *; generalize Lib.itoa c = e2 at *; have z1 : ¬ 9223372036854775807 < (str e1).size + 1 := by rw [zZ]; omega
   have z2 : ¬ 9223372036854775807 < (str e1).size + 1 + (str e2).size := by rw [zZ, zZ]; omega
   have z3 : ¬ 9223372036854775807 < (str e1 ++ ⟨#[42]⟩).size + (str e2).size := by rw [yN, zZ, zZ]; show ¬ _ < _ + 1 + _; omega
   have hlk : ((L.take k).map Sc.star).length = k := by rw [yX, yV]; omega
   have HQ : Hid (WyS W wr.heap.size a c (wr.alloc (.cells #[.int .i64 a, .int .i64 c] 131))) := qh ⟨Blk.new _ _ _, HB.o.trans ((yD wr _).mono HB.o.size)⟩; have HO0 : Hid ((wr.alloc (.cells #[.int .i64 a, .int .i64 c] 131)).drew.ownsRow W.heap.size 9 1 u3 k (flat encS ((L.take k).map Sc.star))) := qh (vL HO.o ((yD _ _).drew) zn); have HNE := qh (owns_ne HO.o zn); clear hl1 hl2 hnb HST; go_wp2_with fail
   refine yB (S := WyS W wr.heap.size a c) kf (HQ.o.next zb.drew) (fun hHeld => ?_); refine kq 0 ?_; refine kq 1 ?_; refine kh 2 (fun w h => h.box.cell 0) ?_; refine kq 5 ?_; refine kh 6 (fun w h => h.box.cell 1) ?_; refine zS 3 fun K hK => ?_; go_simp; refine zT (HD1.o _ hHeld.bel) fun w1 hb1 => ?_; have HV1 := hHeld.next hb1; have HO1 := qh (vL HO0.o hb1 zn); go_wp2_with fail
   refine zK hK (HV1) fun hHeld => ?_; clear hK K; refine kq 4 ?_; refine zS 7 fun K hK => ?_; go_simp; refine zT (HD2.o _ hHeld.bel) fun w2 hb2 => ?_; have HV2 := hHeld.next hb2; have HO2 := qh (vL HO1.o hb2 zn); go_wp2_with fail
   refine zK hK (HV2) fun hHeld => ?_; clear hK K; refine kq 8 ?_; refine zS 9 fun K hK => ?_; go_simp; refine zK hK (hHeld.next (yD _ _)) fun hHeld => ?_; clear hK K; refine zS 10 fun K hK => ?_; have hRd := lit_rd vU w2 9 [e1 ++ 42 :: e2] zi _ rfl; refine wp_app_slG rT _ _ rfl W.heap.size u3 k _ rfl (vL HO2.o (yD w2 _) zn) encS vU (some ⟨w2.heap.size, 0, none⟩) 1 [e1 ++ 42 :: e2] rfl hRd pE zo (by have := hHeld.bel.size; omega) ?_; intro v4 w4 hown4 hgr4; refine hK.out _ _ ⟨(hHeld.box.grownO hgr4 HNE.o), hHeld.bel.trans (below_grown zb hgr4 (vL HO2.o (yD w2 _) zn) zn hHeld.bel.size)⟩ (fun hHeld => ?_); clear hK K
   try simp only [qA, qB, qC, qD, qE, qF, qG]
   refine kq 11 ?_; refine zD ?_
   go_wp2
   exact ⟨⟨k + 1, by go_num, om, qh (by rw [HTK.o, vK]; exact hown4), qh hHeld.bel⟩, by simp [intOf]; omega⟩
  ·have hkl : k = L.length := om
   have hO := HO.o; rw [hkl, xK] at hO; have HO2 : Hid (SlR wr 1 encS u3 (L.map Sc.star)) := qh (SlR.of_owns vU (by rw [yX]; exact hO)); clear hO
   go_wp2
   go_ret
   exact ⟨_, rfl, HO2.o, HB.o⟩
theorem zBb : ∀ a b : List Hp.Wd, Sc.waysP (a ++ b) = (match Sc.waysP a, Sc.waysP b with | some x, some y => some (x ++ y) | _, _ => none)
 | [], b => by simp only [yJ, Sc.waysP]; cases Sc.waysP b <;> rfl
 |w :: a, b => by
  rw [yC, Sc.waysP, Sc.waysP, zBb a b]
  cases Sc.two 42 w with
  | none => rfl
  |some p => cases Sc.waysP a with
   | none => rfl
   | some x => cases Sc.waysP b <;> rfl
theorem waysP_next {l : List Hp.Wd} {k : Nat} (hk : k < l.length) {ws : List (Int × Int)} (h : Sc.waysP (l.take k) = some ws) :
  (∀ p, Sc.two 42 l[k] = some p -> Sc.waysP (l.take (k + 1)) = some (ws ++ [p])) /\ (Sc.two 42 l[k] = none -> Sc.waysP l = none) := by
 have e1 : l.take (k + 1) = l.take k ++ [l[k]] := yA hk; refine ⟨fun p hp => ?_, fun hn => ?_⟩
 ·rw [e1, zBb, h]; simp [Sc.waysP, hp]
 ·have e2 : l = l.take (k + 1) ++ l.drop (k + 1) := (kC _ _).symm
  rw [e2, e1, zBb, zBb, h]; simp [Sc.waysP, hn]
theorem kF {W w2 w4 : World} {ob : Option Nat} (h : W.grownBy w2 ob) (hb : Below W.heap.size w2 w4) : W.grownBy w4 ob :=
 ⟨hb.os.trans h.os, hb.tape.trans h.tape, hb.output.trans h.output, yK h.size hb.size, fun k hk hne => (hb.block k hk).trans (h.block k hk hne)⟩
structure WrS (W : World) (X : Nat) (s : StV) (l : List Hp.Wd) (k : Nat) (ws : List (Int × Int)) (v : Value) (wr : World) : Prop where
 S : StAt wr X { s with t := { s.t with ways := ws }, vw := v }
 own : wr.ownsRow W.heap.size 131 2 v ws.length (flat aV ws)
 gr : W.grownBy wr (some X)
 eq : Sc.waysP (l.take k) = some ws
 len : ws.length <= k
theorem ways_read (lo hi : Nat) (w : World) : wN .W 103 #[] lo hi w := by
 intro W X s v l Y hY hN ha hh ht hX hs hin hw hl hv; obtain ⟨hw1, hw2⟩ := hw rfl; simp only [uJ, vC]
 have HO : Hid (Sc.read .W s.t l = if l = [] then none else (Sc.waysP l).map fun r => ({ s.t with ways := r }, [])) := qh (by
  cases l with
  | nil => rfl
  | cons x r => simp only [Sc.read, hw1, yJ]; rw [zH zi]; cases Sc.waysP (x :: r) <;> rfl)
 generalize Sc.read .W s.t l = ro at *; have hll : l.length <= 1048576 := hl.1; have HX := qh hl.2.1; have HT := qh ht; have hXW := hs.lt; have HIn := qh hin; have hs0 : s = { s with t := { s.t with ways := [] }, vw := .slice none 0 0 } := by cases s; rename_i t a b c d; cases t; simp_all
 have HS0 : Hid (WrS W X s l 0 [] (.slice none 0 0) W) := qh ⟨by rw [← hs0]; exact hs, xL _ _ _ _, jM _ _, rfl, yZ _⟩; obtain ⟨pp, cap, rfl, c1, c2, hR, hq⟩ := hv; have HR := qh hR; have HQ := qh hq; clear hR hs hin ha hq ht hl hw hs0
 go_enter func103, ntmps103
 go_wp2_with fail
 go_loopw [7, 8, 9, 10, 13] (fun _ _ _ _ vi wr => ∃ (k : Nat) (ws : List (Int × Int)) (v : Value), vi = .int .i64 k /\ k <= l.length /\ Hid (WrS W X s l k ws v wr)) (fun _ _ _ _ vi _ => l.length - (intOf vi).toNat)
 case atStart => exact ⟨0, [], _, rfl, yQ _, HS0⟩
 case round =>
  obtain ⟨k, ws, vw, rfl, hk, HU⟩ := hrel
  by_cases hlt : k < l.length
  ·have hwz := HU.o.gr.size
   obtain ⟨b, off, rfl, hbs, hcell⟩ := (HR.o.grown HU.o.gr fun a e hn h => hY _ (HQ.o a e hn) (by simpa using h.symm)).at hlt; have hx := hcell 0 (.string (str l[k])) rfl; simp only [jN, xN] at hx; have hxl := HX.o l[k] (yU hlt); have HWN := qh (waysP_next hlt HU.o.eq); have HN := qh (scr_two 42 l[k] om wr (HT.o.grown HU.o.gr).st); have HTV := qh (fun p => two_val (c := 42) (x := l[k]) (p := p)); have hul := HU.o.len; generalize l[k] = x at *; generalize twoA 42 x = A at *; generalize twoB 42 x = B at *; generalize Sc.two 42 x = on at *; clear hcell hxl; go_wp2_with fail
   refine zT HN.o fun w2 hb2 => ?_; have HB2 := qh hb2; have hw2 := hb2.size; clear hb2
   cases on with
   |none =>
    have HL : Hid (ro = none) := qh (by rw [HO.o, HWN.o.2 rfl]; split <;> rfl); have HG : Hid (W.grownBy w2 (some X)) := qh (uK HU.o.gr (uE HB2.o _)); clear HWN HTV; go_wp2_with fail
    exact zC (v := .tuple #[.slice none 0 0, .bool false]) (by simp [results, results103, go_sem]) rfl (by rw [HL.o]; exact uF.none HG.o _)
   |some p =>
    obtain rfl := HTV.o p rfl; have HW2 := qh (HWN.o.1 _ rfl); have HS2 : Hid (StAt w2 X { s with t := { s.t with ways := ws }, vw := vw }) := qh (HU.o.S.next HB2.o); have HO2 := qh (vL HU.o.own HB2.o zn); have c31 := HS2.o.c31; simp only at c31; have HGR := qh (uK HU.o.gr (uE HB2.o _)); clear HWN HTV HN
    go_wp2_with (first
     | (at_builtin; go_loud (refine uR elemWy rfl (.tmp 30) (.tmp 34) rfl W.heap.size vw _ _ rfl HO2.o 1 1 [.int .i64 A, .int .i64 B] rfl rfl (by simp [Value.oneCell']) om om ?_; intro v4 w4 hown4 hgr4 hob4 hb4; obtain ⟨p4, k4, rfl⟩ := uG hown4; have HS4 := qh (HS2.o.below hb4 hXW); have HW4 := qh hown4; have HG4 := qh hgr4; have HB4 := qh hb4; have c4 := HS4.o.c31; have f4 := HS4.o.fz 31; simp only at c4; clear hown4 hgr4 hob4 hb4)))
    have HN4 : Hid (WrS W X s l (k + 1) (ws ++ [(A, B)]) (.slice p4 (ws.length + 1) k4) (w4.setCell ⟨X, 31, none⟩ (.slice p4 (ws.length + 1) k4))) := qh ⟨HS4.o.setW (ws ++ [(A, B)]) _, by rw [vK, zG]; exact ownsRow_setCell_below HW4.o zo _, uK (kF HGR.o HB4.o) (vH _ _ _ _), HW2.o, zo⟩; exact ⟨⟨k + 1, ws ++ [(A, B)], _, by go_num, om, HN4⟩, by simp [intOf]; omega⟩
  ·obtain rfl : k = l.length := om
   have HE := HU.o.eq; rw [xK] at HE; have HE := qh HE
   have HI : Hid (xX Y wr { s with t := { s.t with ways := ws }, vw := vw }) := qh (by
    have h9 := HIn.o.grown HU.o.gr (fun b hb => by simp; exact fun h => hY b hb h.symm); exact ⟨h9.l, h9.r, (SlP.of_owns nX HU.o.own).imp (fun b hb => hN b om), h9.b⟩)
   by_cases h0 : l = []
   ·subst h0
    have HL : Hid (ro = none) := qh (by rw [HO.o]; rfl); go_wp2_with fail
    exact zC (v := .tuple #[.slice none 0 0, .bool false]) (by simp [results, results103, go_sem]) rfl (by rw [HL.o]; exact uF.none HU.o.gr _)
   ·have HL : Hid (ro = some ({ s.t with ways := ws }, [])) := qh (by rw [HO.o, zH h0, HE.o]; rfl)
    have hpos : 0 < l.length := kU.2 h0; clear h0; go_wp2_with fail
    exact zC (v := .tuple #[.slice none 0 0, .bool true]) (by simp [results, results103, go_sem]) rfl (by rw [HL.o]; exact uF.some HU.o.gr _ { s with t := { s.t with ways := ws }, vw := vw } [] HU.o.S HI.o (SlP.nil _ _ _) fun h => absurd rfl h)
theorem read_P (t : Sc.Stp) (x : Hp.Wd) (r : List Hp.Wd) : Sc.read .P t (x :: r) = if (vR x).isSome = true /\ fC ((vR x).getD zP) = x then some ({ t with pf := (vR x).getD zP }, r) else none := by
 simp only [Sc.read]
 cases vR x with
 | none => simp
 |some p =>
  simp only [aA, rX, vI]
theorem parse_ok16 (x : Hp.Wd) : ((vR x).getD zP).addr.length = 16 /\ Len64 ((vR x).getD zP) := by
 cases h : vR x with
 | none => exact ⟨rfl, by unfold Len64 zP; decide⟩
 |some p =>
  refine ⟨Sc.parseP_16 h, ?_⟩; unfold vR at h
  cases ha : bU (Lib.cut x [47]).1 with
  | none => rw [ha] at h; cases h
  |some q =>
   obtain ⟨six, a⟩ := q; rw [ha] at h
   cases hn : number (Lib.cut x [47]).2.1 128 with
   | none => rw [hn] at h; cases h
   |some n =>
    rw [hn] at h; simp only at h
    split at h
    ·injection h with h
     subst h; have := uD.1 hn; unfold Len64; simp only [vI]; omega
    ·cases h
theorem prefixes_read (lo hi : Nat) (w : World) : wN .P 106 #[] lo hi w := by
 intro W X s v l Y hY hN ha hh ht hX hs hin hw hl hv; have HSX := qh ht; replace ht := ht.st; simp only [uJ, vC]
 cases l with
 |nil =>
  have HO : Hid (Sc.read .P s.t [] = none) := qh rfl; rw [HO.o]; obtain ⟨pp, cap, rfl, c1, c2, hR, hq⟩ := hv
  go_enter func106, ntmps106
  go_wp2_with fail
  exact zC (v := .tuple #[.slice none 0 0, .bool false]) (by simp [results, results106, go_sem]) rfl (uF.none (jM _ _) _)
 |cons x r =>
  have HO := qh (read_P s.t x r); generalize Sc.read .P s.t (x :: r) = ro at *; have hxl := hl.2.1 x yH; have HN := qh (pfx_Parse x om W ht.p); obtain ⟨k1, k2⟩ := parse_ok16 x; have K16 := qh k1; have HPX := qh (PX.of k1); have HSH := qh fun W' (h : ST W') => pfx_Show ((vR x).getD zP) k1 k2 W' h.p; have HS := qh hs; have HIn := qh hin; obtain ⟨pp, cap, rfl, c1, c2, hR, hq⟩ := hv; simp only [zI] at c1; obtain ⟨b, off, rfl, hbl2, hc⟩ := hR.at (i := 0) zi; have hx := hc 0 (.string (str x)) rfl; simp only [jP, xN] at hx; have hbY := hq _ rfl zi; have hbq := hY _ hbY; have HR := qh hR; have hl1 : r.length + 1 <= 1048576 := by have := hl.1; simpa using this
  have hn0 : ((r.length : Int) + 1 == 0) = false := zo; have hXl := hs.lt; clear hc hR hs hin ha hq ht hl k1 k2; have HU := qh underlying26; generalize (vR x).isSome = is at *; generalize (vR x).getD zP = q at *; generalize fC q = sp at *; obtain ⟨pa, hpa⟩ : ∃ pa : Array Value, pa = pfA q := ⟨_, rfl⟩; have HPA := qh hpa; rw [← hpa] at HN HPX HSH; clear hpa
  go_enter func106, ntmps106
  go_wp2_with fail
  refine zT HN.o fun w1 hb1 => ?_; have HS2 := qh ((HS.o.next hb1).alloc (.cells pa 26)); have HB2 := qh (hb1.alloc hb1.size (.cells pa 26)); have HBX := qh (Blk.new w1 26 pa); have hw1 := hb1.size; clear hb1
  go_wp2_with (first
   | (refine vS rfl _ _ _ rfl pa rfl rfl _ _ HPX.o.info HPX.o.size.symm HPX.o.one ?_)
   | (refine yI rfl _ _ rfl w1.heap.size rfl _ pa (0, 0) _ HBX.o HU.o rfl HPX.o.info ?_)
   | (refine wpList_store_mid rfl _ _ _ rfl X 7 pa rfl rfl (HS2.o.th (by rw [HPX.o.size]; omega)) HPX.o.info HPX.o.one ?_))
  have HG5 : Hid (W.grownBy ((w1.alloc (.cells pa 26)).setCells X 7 pa.toList) (some X)) := qh (uK (uE HB2.o _) (tO _ _ _ _)); have HS5 : Hid (StAt ((w1.alloc (.cells pa 26)).setCells X 7 pa.toList) X { s with t := { s.t with pf := q } }) := qh (by have := HS2.o.setP (p := q) K16.o; rw [← HPA.o] at this; exact this); have HB5 : Hid (Blk ((w1.alloc (.cells pa 26)).setCells X 7 pa.toList) w1.heap.size 26 pa) := qh (HBX.o.grown (tO _ _ _ _) om); have HV5 : Hid (RdP ((w1.alloc (.cells pa 26)).setCells X 7 pa.toList) 1 encS (some ⟨b, off, none⟩) (x :: r)) := qh (HR.o.grownS HG5.o fun a e => by cases e; simp; exact fun h => hbq h.symm); have HI5 : Hid (xX Y ((w1.alloc (.cells pa 26)).setCells X 7 pa.toList) { s with t := { s.t with pf := q } }) := qh (by have h9 := HIn.o.grown HG5.o (fun b hb => by simp; exact fun h => hY b hb h.symm); exact ⟨h9.l, h9.r, h9.ws, h9.b⟩); have HST5 := qh (HSX.o.grown HG5.o).st; generalize (w1.alloc (.cells pa 26)).setCells X 7 pa.toList = W5 at *; have hX5 := HS5.o.lt; obtain ⟨-, hbl5, hc5⟩ := HV5.o.2 _ rfl zi; have hx5 := hc5 0 x rfl 0 _ rfl; simp only [jP, xN] at hx5; clear hc5 hx HS HIn HR HN HS2 HB2 HBX HPA HSX K16; have h1le : (1 : Int) <= (r.length : Int) + 1 := om
  by_cases hcap : cap = 1
  ·subst hcap
   obtain rfl : r = [] := zX om
   cases is with
   |false =>
    have HL : Hid (ro = none) := qh (by rw [HO.o]; exact zH (fun h => by cases h.1)); refine yB (S := fun W' => zW W5 W') kf zb.drew (fun hHeld => ?_); refine kq 0 ?_; refine kq 1 ?_; refine kq 2 ?_; refine kq 3 ?_; refine tn 4 ?_; refine tn 5 ?_; refine tn 6 ?_; refine tn 7 ?_; refine tn 8 ?_; refine tn 9 ?_; refine kq 10 ?_; refine kq 11 ?_; refine kq 12 ?_; refine zD ?_; go_wp2_with fail
    exact zC (v := .tuple #[.slice (some ⟨b, off, none⟩) 0 0, .bool false]) (by simp [results, results106, go_sem]) rfl (by rw [HL.o]; exact uF.none (kF HG5.o (hHeld.mono HG5.o.size)) _)
   |true =>
    by_cases hq2 : sp = x
    ·have heq : (sp == x) = true := by simpa using hq2
     have HL : Hid (ro = some ({ s.t with pf := q }, [])) := qh (by rw [HO.o]; exact zN ⟨rfl, hq2⟩); clear hq2; refine yB (S := fun W' => zW W5 W') kf zb.drew (fun hHeld => ?_); refine kq 0 ?_; refine kq 1 ?_; refine kq 2 ?_; refine kq 3 ?_; refine kY 4 rfl (zR rfl (w1.heap.size) rfl _ (pa) _ (fun w h => HB5.o.below h HB5.o.lt) HU.o rfl HPX.o.info) ?_; refine kq 6 ?_; refine kq 7 ?_; refine kh 8 (fun w h => (h.cell (p := ⟨b, off, none⟩) hbl5).trans hx5) ?_; refine zS 5 fun K hK => ?_; go_simp; refine zT (HSH.o _ (HST5.o.below hHeld)) fun w6 hb6 => ?_; have HV6 := hHeld.trans (hb6.mono hHeld.size); go_wp2_with fail
     refine zK hK (HV6) fun hHeld => ?_; clear hK K; refine kq 9 ?_ (hy := by intro w h; have z := heq; have z2 := vX; go_simp; try with_reducible rfl); refine kq 10 ?_; refine kq 11 ?_; refine kq 12 ?_; refine zD ?_; go_wp2_with fail
     exact zC (v := .tuple #[.slice (some ⟨b, off, none⟩) 0 0, .bool true]) (by simp [results, results106, go_sem]) rfl (by rw [HL.o]; exact uF.some (kF HG5.o (hHeld.mono HG5.o.size)) _ _ [] (HS5.o.below hHeld hX5) (HI5.o.below hHeld zn) ((SlP.tailA zi HV5.o hbY).below hHeld zn) (fun _ => rfl))
    ·have heq : (sp == x) = false := by simpa using hq2
     have HL : Hid (ro = none) := qh (by rw [HO.o]; exact zH (fun h => hq2 h.2)); clear hq2; refine yB (S := fun W' => zW W5 W') kf zb.drew (fun hHeld => ?_); refine kq 0 ?_; refine kq 1 ?_; refine kq 2 ?_; refine kq 3 ?_; refine kY 4 rfl (zR rfl (w1.heap.size) rfl _ (pa) _ (fun w h => HB5.o.below h HB5.o.lt) HU.o rfl HPX.o.info) ?_; refine kq 6 ?_; refine kq 7 ?_; refine kh 8 (fun w h => (h.cell (p := ⟨b, off, none⟩) hbl5).trans hx5) ?_; refine zS 5 fun K hK => ?_; go_simp; refine zT (HSH.o _ (HST5.o.below hHeld)) fun w6 hb6 => ?_; have HV6 := hHeld.trans (hb6.mono hHeld.size); go_wp2_with fail
     refine zK hK (HV6) fun hHeld => ?_; clear hK K; refine kq 9 ?_ (hy := by intro w h; have z := heq; have z2 := vX; go_simp; try with_reducible rfl); refine kq 10 ?_; refine kq 11 ?_; refine kq 12 ?_; refine zD ?_; go_wp2_with fail
     exact zC (v := .tuple #[.slice (some ⟨b, off, none⟩) 0 0, .bool false]) (by simp [results, results106, go_sem]) rfl (by rw [HL.o]; exact uF.none (kF HG5.o (hHeld.mono HG5.o.size)) _)
  ·cases is with
   |false =>
    have HL : Hid (ro = none) := qh (by rw [HO.o]; exact zH (fun h => by cases h.1)); refine yB (S := fun W' => zW W5 W') kf zb.drew (fun hHeld => ?_); refine kq 0 ?_; refine kq 1 ?_; refine kq 2 ?_; refine kq 3 ?_; refine tn 4 ?_; refine tn 5 ?_; refine tn 6 ?_; refine tn 7 ?_; refine tn 8 ?_; refine tn 9 ?_; refine kq 10 ?_; refine kq 11 ?_; refine kq 12 ?_; refine zD ?_; go_wp2_with fail
    exact zC (v := .tuple #[.slice (some ⟨b, off + 1, none⟩) r.length (cap - 1), .bool false]) (by simp [results, results106, go_sem]) rfl (by rw [HL.o]; exact uF.none (kF HG5.o (hHeld.mono HG5.o.size)) _)
   |true =>
    by_cases hq2 : sp = x
    ·have heq : (sp == x) = true := by simpa using hq2
     have HL : Hid (ro = some ({ s.t with pf := q }, r)) := qh (by rw [HO.o]; exact zN ⟨rfl, hq2⟩); clear hq2; refine yB (S := fun W' => zW W5 W') kf zb.drew (fun hHeld => ?_); refine kq 0 ?_; refine kq 1 ?_; refine kq 2 ?_; refine kq 3 ?_; refine kY 4 rfl (zR rfl (w1.heap.size) rfl _ (pa) _ (fun w h => HB5.o.below h HB5.o.lt) HU.o rfl HPX.o.info) ?_; refine kq 6 ?_; refine kq 7 ?_; refine kh 8 (fun w h => (h.cell (p := ⟨b, off, none⟩) hbl5).trans hx5) ?_; refine zS 5 fun K hK => ?_; go_simp; refine zT (HSH.o _ (HST5.o.below hHeld)) fun w6 hb6 => ?_; have HV6 := hHeld.trans (hb6.mono hHeld.size); go_wp2_with fail
     refine zK hK (HV6) fun hHeld => ?_; clear hK K; refine kq 9 ?_ (hy := by intro w h; have z := heq; have z2 := vX; go_simp; try with_reducible rfl); refine kq 10 ?_; refine kq 11 ?_; refine kq 12 ?_; refine zD ?_; go_wp2_with fail
     exact zC (v := .tuple #[.slice (some ⟨b, off + 1, none⟩) r.length (cap - 1), .bool true]) (by simp [results, results106, go_sem]) rfl (by rw [HL.o]; exact uF.some (kF HG5.o (hHeld.mono HG5.o.size)) _ _ r (HS5.o.below hHeld hX5) (HI5.o.below hHeld zn) ((SlP.tailB c1 c2 HV5.o hbY).below hHeld zn) (fun _ => rfl))
    ·have heq : (sp == x) = false := by simpa using hq2
     have HL : Hid (ro = none) := qh (by rw [HO.o]; exact zH (fun h => hq2 h.2)); clear hq2; refine yB (S := fun W' => zW W5 W') kf zb.drew (fun hHeld => ?_); refine kq 0 ?_; refine kq 1 ?_; refine kq 2 ?_; refine kq 3 ?_; refine kY 4 rfl (zR rfl (w1.heap.size) rfl _ (pa) _ (fun w h => HB5.o.below h HB5.o.lt) HU.o rfl HPX.o.info) ?_; refine kq 6 ?_; refine kq 7 ?_; refine kh 8 (fun w h => (h.cell (p := ⟨b, off, none⟩) hbl5).trans hx5) ?_; refine zS 5 fun K hK => ?_; go_simp; refine zT (HSH.o _ (HST5.o.below hHeld)) fun w6 hb6 => ?_; have HV6 := hHeld.trans (hb6.mono hHeld.size); go_wp2_with fail
     refine zK hK (HV6) fun hHeld => ?_; clear hK K; refine kq 9 ?_ (hy := by intro w h; have z := heq; have z2 := vX; go_simp; try with_reducible rfl); refine kq 10 ?_; refine kq 11 ?_; refine kq 12 ?_; refine zD ?_; go_wp2_with fail
     exact zC (v := .tuple #[.slice (some ⟨b, off + 1, none⟩) r.length (cap - 1), .bool false]) (by simp [results, results106, go_sem]) rfl (by rw [HL.o]; exact uF.none (kF HG5.o (hHeld.mono HG5.o.size)) _)
theorem oneHopA (h : Hp.Hop) (p1 : Option Addr) (n1 c1 : Nat) (p2 : Option Addr) (n2 c2 : Nat) : (hopA h (.slice p1 n1 c1) (.slice p2 n2 c2)).all (·.oneCell') = true := by simp [hopA, Value.oneCell']
theorem hops_read (lo hi : Nat) (w : World) : wN .H 100 #[] lo hi w := by
 intro W X s v l Y hY hN ha hh ht hX hs hin hw hl hv; replace ht := ht.st; simp only [uJ, vC]
 have HO : Hid (Sc.read .H s.t l = (Hp.parseR (Hp.join l)).map fun h => ({ s.t with hop := h }, [])) := qh (by
  have : Sc.read .H s.t l = (match Hp.parseR (Hp.join l) with | some h => some ({ s.t with hop := h }, []) | none => none) := by cases l <;> rfl
  rw [this]; cases Hp.parseR (Hp.join l) <;> rfl)
 generalize Sc.read .H s.t l = ro at *; have HJ := qh (zAs l hl.1 (by have := hl.2.2; omega) v W hv.sl); have HC := qh fun W' (h : zW W W') => hop_Parse (Hp.join l) (by have := hl.2.2; omega) W' (ht.below h).p.tabs (ht.below h).p.ct.ml; have HS := qh hs; have HIn := qh hin; have hXl := hs.lt; have hv2 : ∃ p n c, v = .slice p n c := by obtain ⟨p, c, rfl, _⟩ := hv; exact ⟨p, _, c, rfl⟩
 obtain ⟨pv, nv, cv, rfl⟩ := hv2; have HU := qh underlying29; clear hs hin ha ht hl hv hw; generalize Hp.join l = jl at *
 go_enter func100, ntmps100
 go_wp2_with fail
 refine zT HJ.o fun w1 hb1 => ?_; have HB1 := qh hb1; clear hb1; go_wp2_with fail
 refine (HC.o w1 HB1.o).mono ?_; rintro e w2 ⟨hl2, hr2, rfl, hf, hb2⟩; have hls : ∃ p n c, hl2 = .slice p n c := by obtain ⟨p, c, e, _⟩ := hf.sl; exact ⟨p, _, c, e⟩
 have hrs : ∃ p n c, hr2 = .slice p n c := by obtain ⟨p, c, e, _⟩ := hf.sr; exact ⟨p, _, c, e⟩
 obtain ⟨q1, n1, k1, rfl⟩ := hls; obtain ⟨q2, n2, k2, rfl⟩ := hrs; have HB2 := qh (HB1.o.trans (hb2.mono HB1.o.size)); have hz1 := HB1.o.size; have hz2 := HB2.o.size; have HF := qh hf; have HOO := qh (fun h => (fun e : Hp.parseR jl = some h => HO.o.trans (by rw [e]))); have HON := qh (fun e : Hp.parseR jl = none => HO.o.trans (by rw [e])); have HIS := qh (fun h => (fun e : Hp.parseR jl = some h => (yG Option.isSome e : (Hp.parseR jl).isSome = true))); obtain ⟨po, hpo⟩ : ∃ po, Hp.parseR jl = po := ⟨_, rfl⟩; rw [hpo] at HF HOO HON HIS; clear hf hb2 HC HO; simp only [hpo]; clear hpo; obtain ⟨h0, hh0⟩ : ∃ h0, po.getD ⟨0, [], 0, 0, [], false⟩ = h0 := ⟨_, rfl⟩; rw [hh0] at HF; have HH0 := qh hh0; simp only [hh0]; clear hh0; obtain ⟨pa, hpa⟩ : ∃ pa : Array Value, pa = hopA h0 (.slice q1 n1 k1) (.slice q2 n2 k2) := ⟨_, rfl⟩; have h6 : Hid (pa.size = 6) := qh (by rw [hpa]; rfl); have hin6 : Hid ((prog.info? 29).map (·.size) = some pa.size) := qh (by rw [h6.o]; kernel_rfl); have hone : Hid (pa.all (·.oneCell') = true) := qh (by rw [hpa]; exact oneHopA _ _ _ _ _ _ _); have HPA := qh hpa; rw [← hpa]; clear hpa; have HS2 := qh ((HS.o.next HB2.o).alloc (.cells pa 29)); have HBX := qh (Blk.new w2 29 pa)
 go_wp2_with (first
  | (refine vS rfl _ _ _ rfl pa rfl rfl _ _ hin6.o h6.o.symm hone.o ?_)
  | (refine yI rfl _ _ rfl w2.heap.size rfl _ pa (0, 0) _ HBX.o HU.o rfl hin6.o ?_)
  | (refine wpList_store_mid rfl _ _ _ rfl X 25 pa rfl rfl (HS2.o.th (by rw [h6.o]; omega)) hin6.o hone.o ?_))
 have HG : Hid (W.grownBy ((w2.alloc (.cells pa 29)).setCells X 25 pa.toList) (some X)) := qh (uK (uE (HB2.o.alloc HB2.o.size _) _) (tO _ _ _ _))
 cases po with
 | none => exact zC (v := .tuple #[.slice none 0 0, .bool false]) (by simp [results, results100, go_sem]) rfl (by rw [HON.o rfl]; exact uF.none HG.o _)
 |some h =>
  obtain rfl := HH0.o; have e2 : (w2.alloc (.cells pa 29)).grownBy ((w2.alloc (.cells pa 29)).setCells X 25 pa.toList) (some X) := tO _ _ _ _; have r1 := (((HF.o.sl.below (yD w2 (.cells pa 29)) zn).grown e2 (fun b hb => zo)).imp (Qr := Y) (fun b hb => hN b om)); have r2 := (((HF.o.sr.below (yD w2 (.cells pa 29)) zn).grown e2 (fun b hb => zo)).imp (Qr := Y) (fun b hb => hN b om)); have h9 := HIn.o.grown HG.o (fun b hb => by simp; exact fun h => hY b hb h.symm); have hst := HS2.o.setH h (.slice q1 n1 k1) (.slice q2 n2 k2); have e3 : hopA h (.slice q1 n1 k1) (.slice q2 n2 k2) = pa := HPA.o.symm; rw [e3] at hst; exact zC (v := .tuple #[.slice none 0 0, .bool true]) (by simp [results, results100, go_sem]) rfl (by rw [HOO.o h rfl]; exact uF.some HG.o _ _ [] hst ⟨r1, r2, h9.ws, h9.b⟩ (SlP.nil _ _ _) (fun _ => rfl))
theorem unhex_len : ∀ (l out b : List UInt8), vE out l = some b -> b.length <= out.length + l.length
 | [], out, b, h => by injection h with h; subst h; simp
 | [_], out, b, h => by cases h
 |a :: c :: r, out, b, h => by
  simp only [vE] at h
  split at h
  ·cases h
  ·have := unhex_len r _ b h
   simp only [zG, zI, xI] at this ⊢; omega
theorem pV (x : List UInt8) : ((vE [] x).getD []).length <= x.length := by
 cases h : vE [] x with
 | none => simp
 | some b => have := unhex_len x [] b h; simpa using this
theorem read_B (t : Sc.Stp) {x : Hp.Wd} (h0 : x ≠ []) (h1 : x ≠ [45]) (r : List Hp.Wd) : Sc.read .B t (x :: r) = if (vE [] x).isSome = true /\ hex ((vE [] x).getD []) = x then some ({ t with bytes := (vE [] x).getD [] }, r) else none := by
 simp only [Sc.read]; rw [zH h0, zH h1]
 cases vE [] x with
 | none => simp
 | some p => simp only [aA, rX, vI]
theorem packets_read (lo hi : Nat) (w : World) : wN .B 114 #[] lo hi w := by
 intro W X s v l Y hY hN ha hh ht hX hs hin hw hl hv; replace ht := ht.st; simp only [uJ, vC]
 cases l with
 |nil =>
  have HO : Hid (Sc.read .B s.t [] = none) := qh rfl; rw [HO.o]; obtain ⟨pp, cap, rfl, c1, c2, hR, hq⟩ := hv
  go_enter func114, ntmps114
  go_wp2_with fail
  exact zC (v := .tuple #[.slice none 0 0, .bool false]) (by simp [results, results114, go_sem]) rfl (uF.none (jM _ _) _)
 |cons x r =>
  have hxl := hl.2.1 x yH; have HS := qh hs; have HIn := qh hin; have hXl := hs.lt; have HV := qh hv; obtain ⟨pp, cap, rfl, c1, c2, hR, hq⟩ := hv; simp only [zI] at c1; obtain ⟨b, off, rfl, hbl2, hc⟩ := hR.at (i := 0) zi; have hx := hc 0 (.string (str x)) rfl; simp only [jP, xN] at hx; have hbY := hq _ rfl zi; have hbq := hY _ hbY; have HR := qh hR; have hl1 : r.length + 1 <= 1048576 := by have := hl.1; simpa using this
  have hn0 : ((r.length : Int) + 1 == 0) = false := zo; have htl := vX; clear hc hR hs hin ha hq ht hl
  by_cases h0 : x = []
  ·have HL : Hid (Sc.read .B s.t (x :: r) = none) := qh (by subst h0; simp [Sc.read])
   have he0 : (x == ([] : List UInt8)) = true := by simpa using h0
   rw [HL.o]; clear h0
   go_enter func114, ntmps114
   go_wp2_with fail
   exact zC (v := .tuple #[.slice none 0 0, .bool false]) (by simp [results, results114, go_sem]) rfl (uF.none (jM _ _) _)
  have he0 : (x == ([] : List UInt8)) = false := by simpa using h0
  have h1le : (1 : Int) <= (r.length : Int) + 1 := om
  by_cases h45 : x = [45]
  ·have HL : Hid (Sc.read .B s.t (x :: r) = some (s.t, r)) := qh (by subst h45; simp [Sc.read])
   have he1 : (x == ([45] : List UInt8)) = true := by simpa using h45
   rw [HL.o]; clear h0 h45
   by_cases hcap : cap = 1
   ·subst hcap
    obtain rfl : r = [] := zX om
    go_enter func114, ntmps114
    go_wp2_with fail
    exact zC (v := .tuple #[.slice (some ⟨b, off, none⟩) 0 0, .bool true]) (by simp [results, results114, go_sem]) rfl (uF.some (jM _ _) _ s [] HS.o HIn.o (SlP.tailA zi HR.o hbY) (fun _ => rfl))
   ·go_enter func114, ntmps114
    go_wp2_with fail
    exact zC (v := .tuple #[.slice (some ⟨b, off + 1, none⟩) r.length (cap - 1), .bool true]) (by simp [results, results114, go_sem]) rfl (uF.some (jM _ _) _ s r HS.o HIn.o (SlP.tailB c1 c2 HR.o hbY) (fun _ => rfl))
  have he1 : (x == ([45] : List UInt8)) = false := by simpa using h45
  have HO := qh (read_B s.t h0 h45 r); generalize Sc.read .B s.t (x :: r) = ro at *; have HN := qh (octet_Unhex x om W); have hbl := pV x; clear h0 h45; generalize (vE [] x).isSome = is at *; generalize (vE [] x).getD [] = bs at *; generalize hsp : hex bs = sp at *; have HSP := qh hsp; clear hsp
  go_enter func114, ntmps114
  go_wp2_with fail
  refine HN.o.mono ?_; rintro e w1 ⟨v1, rfl, ho1, hb1⟩; have HSB := qh (SlP.of_owns encB_len ho1); obtain ⟨pb, cb, rfl⟩ := uG ho1; have HS2 := qh (HS.o.next hb1); have HB2 := qh hb1; have hw1 := hb1.size; have c35 := HS2.o.c35; have f35 := HS2.o.fz 35; clear hb1 ho1; go_wp2_with fail
  have HG5 : Hid (W.grownBy (w1.setCell ⟨X, 35, none⟩ (.slice pb bs.length cb)) (some X)) := qh (uK (uE HB2.o _) (vH _ _ _ _)); have HS5 : Hid (StAt (w1.setCell ⟨X, 35, none⟩ (.slice pb bs.length cb)) X { s with t := { s.t with bytes := bs }, vb := .slice pb bs.length cb }) := qh (HS2.o.setB bs _); have HV5 : Hid (RdP (w1.setCell ⟨X, 35, none⟩ (.slice pb bs.length cb)) 1 encS (some ⟨b, off, none⟩) (x :: r)) := qh (HR.o.grownS HG5.o fun a e => by cases e; simp; exact fun h => hbq h.symm); have HB5 : Hid (SlP Y (w1.setCell ⟨X, 35, none⟩ (.slice pb bs.length cb)) 1 encB (.slice pb bs.length cb) bs) := qh ((HSB.o.grown (vH w1 X 35 _) (fun b hb => zo)).imp (fun b hb => hN b om)); have HI5 : Hid (xX Y (w1.setCell ⟨X, 35, none⟩ (.slice pb bs.length cb)) { s with t := { s.t with bytes := bs }, vb := .slice pb bs.length cb }) := qh (by have h9 := HIn.o.grown HG5.o (fun b hb => by simp; exact fun h => hY b hb h.symm); exact ⟨h9.l, h9.r, h9.ws, HB5.o⟩)
  have HHX : Hid (∀ W', Below (w1.setCell ⟨X, 35, none⟩ (.slice pb bs.length cb)).heap.size (w1.setCell ⟨X, 35, none⟩ (.slice pb bs.length cb)) W' -> Calls prog 113 #[.slice pb bs.length cb] W' fun e w' => e = .returned (.string (str sp)) /\ Below W'.heap.size W' w') := qh fun W' h => by
   have := octet_Hex bs om (.slice pb bs.length cb) W' (HB5.o.sl.below h zn); rw [HSP.o] at this; exact this
  generalize w1.setCell ⟨X, 35, none⟩ (.slice pb bs.length cb) = W5 at *; have hX5 := HS5.o.lt; obtain ⟨-, hbl5, hc5⟩ := HV5.o.2 _ rfl zi; have hx5 := hc5 0 x rfl 0 _ rfl; simp only [jP, xN] at hx5; clear hc5 hx HS HIn HR HN HS2 HB2 HSB HB5 HV c35 f35; have h1le : (1 : Int) <= (r.length : Int) + 1 := om
  by_cases hcap : cap = 1
  ·subst hcap
   obtain rfl : r = [] := zX om
   cases is with
   |false =>
    have HL : Hid (ro = none) := qh (by rw [HO.o]; exact zH (fun h => by cases h.1)); refine yB (S := fun W' => zW W5 W') kf zb.drew (fun hHeld => ?_); refine kq 0 ?_; refine kq 1 ?_; refine kq 2 ?_; refine kq 3 ?_; refine tn 4 ?_; refine tn 5 ?_; refine tn 6 ?_; refine tn 7 ?_; refine tn 8 ?_; refine tn 9 ?_; refine kq 10 ?_; refine kq 11 ?_; refine kq 12 ?_; refine zD ?_; go_wp2_with fail
    exact zC (v := .tuple #[.slice (some ⟨b, off, none⟩) 0 0, .bool false]) (by simp [results, results114, go_sem]) rfl (by rw [HL.o]; exact uF.none (kF HG5.o (hHeld.mono HG5.o.size)) _)
   |true =>
    by_cases hq2 : sp = x
    ·have heq : (sp == x) = true := by simpa using hq2
     have HL : Hid (ro = some ({ s.t with bytes := bs }, [])) := qh (by rw [HO.o]; exact zN ⟨rfl, hq2⟩); clear hq2; refine yB (S := fun W' => zW W5 W') kf zb.drew (fun hHeld => ?_); refine kq 0 ?_; refine kq 1 ?_; refine kq 2 ?_; refine kq 3 ?_; refine kq 4 ?_; refine kq 6 ?_; refine kq 7 ?_; refine kh 8 (fun w h => (h.cell (p := ⟨b, off, none⟩) hbl5).trans hx5) ?_; refine zS 5 fun K hK => ?_; go_simp; refine zT (HHX.o _ hHeld) fun w6 hb6 => ?_; have HV6 := hHeld.trans (hb6.mono hHeld.size); go_wp2_with fail
     refine zK hK (HV6) fun hHeld => ?_; clear hK K; refine kq 9 ?_ (hy := by intro w h; have z := heq; have z2 := vX; go_simp; try with_reducible rfl); refine kq 10 ?_; refine kq 11 ?_; refine kq 12 ?_; refine zD ?_; go_wp2_with fail
     exact zC (v := .tuple #[.slice (some ⟨b, off, none⟩) 0 0, .bool true]) (by simp [results, results114, go_sem]) rfl (by rw [HL.o]; exact uF.some (kF HG5.o (hHeld.mono HG5.o.size)) _ _ [] (HS5.o.below hHeld hX5) (HI5.o.below hHeld zn) ((SlP.tailA zi HV5.o hbY).below hHeld zn) (fun _ => rfl))
    ·have heq : (sp == x) = false := by simpa using hq2
     have HL : Hid (ro = none) := qh (by rw [HO.o]; exact zH (fun h => hq2 h.2)); clear hq2; refine yB (S := fun W' => zW W5 W') kf zb.drew (fun hHeld => ?_); refine kq 0 ?_; refine kq 1 ?_; refine kq 2 ?_; refine kq 3 ?_; refine kq 4 ?_; refine kq 6 ?_; refine kq 7 ?_; refine kh 8 (fun w h => (h.cell (p := ⟨b, off, none⟩) hbl5).trans hx5) ?_; refine zS 5 fun K hK => ?_; go_simp; refine zT (HHX.o _ hHeld) fun w6 hb6 => ?_; have HV6 := hHeld.trans (hb6.mono hHeld.size); go_wp2_with fail
     refine zK hK (HV6) fun hHeld => ?_; clear hK K; refine kq 9 ?_ (hy := by intro w h; have z := heq; have z2 := vX; go_simp; try with_reducible rfl); refine kq 10 ?_; refine kq 11 ?_; refine kq 12 ?_; refine zD ?_; go_wp2_with fail
     exact zC (v := .tuple #[.slice (some ⟨b, off, none⟩) 0 0, .bool false]) (by simp [results, results114, go_sem]) rfl (by rw [HL.o]; exact uF.none (kF HG5.o (hHeld.mono HG5.o.size)) _)
  ·cases is with
   |false =>
    have HL : Hid (ro = none) := qh (by rw [HO.o]; exact zH (fun h => by cases h.1)); refine yB (S := fun W' => zW W5 W') kf zb.drew (fun hHeld => ?_); refine kq 0 ?_; refine kq 1 ?_; refine kq 2 ?_; refine kq 3 ?_; refine tn 4 ?_; refine tn 5 ?_; refine tn 6 ?_; refine tn 7 ?_; refine tn 8 ?_; refine tn 9 ?_; refine kq 10 ?_; refine kq 11 ?_; refine kq 12 ?_; refine zD ?_; go_wp2_with fail
    exact zC (v := .tuple #[.slice (some ⟨b, off + 1, none⟩) r.length (cap - 1), .bool false]) (by simp [results, results114, go_sem]) rfl (by rw [HL.o]; exact uF.none (kF HG5.o (hHeld.mono HG5.o.size)) _)
   |true =>
    by_cases hq2 : sp = x
    ·have heq : (sp == x) = true := by simpa using hq2
     have HL : Hid (ro = some ({ s.t with bytes := bs }, r)) := qh (by rw [HO.o]; exact zN ⟨rfl, hq2⟩); clear hq2; refine yB (S := fun W' => zW W5 W') kf zb.drew (fun hHeld => ?_); refine kq 0 ?_; refine kq 1 ?_; refine kq 2 ?_; refine kq 3 ?_; refine kq 4 ?_; refine kq 6 ?_; refine kq 7 ?_; refine kh 8 (fun w h => (h.cell (p := ⟨b, off, none⟩) hbl5).trans hx5) ?_; refine zS 5 fun K hK => ?_; go_simp; refine zT (HHX.o _ hHeld) fun w6 hb6 => ?_; have HV6 := hHeld.trans (hb6.mono hHeld.size); go_wp2_with fail
     refine zK hK (HV6) fun hHeld => ?_; clear hK K; refine kq 9 ?_ (hy := by intro w h; have z := heq; have z2 := vX; go_simp; try with_reducible rfl); refine kq 10 ?_; refine kq 11 ?_; refine kq 12 ?_; refine zD ?_; go_wp2_with fail
     exact zC (v := .tuple #[.slice (some ⟨b, off + 1, none⟩) r.length (cap - 1), .bool true]) (by simp [results, results114, go_sem]) rfl (by rw [HL.o]; exact uF.some (kF HG5.o (hHeld.mono HG5.o.size)) _ _ r (HS5.o.below hHeld hX5) (HI5.o.below hHeld zn) ((SlP.tailB c1 c2 HV5.o hbY).below hHeld zn) (fun _ => rfl))
    ·have heq : (sp == x) = false := by simpa using hq2
     have HL : Hid (ro = none) := qh (by rw [HO.o]; exact zH (fun h => hq2 h.2)); clear hq2; refine yB (S := fun W' => zW W5 W') kf zb.drew (fun hHeld => ?_); refine kq 0 ?_; refine kq 1 ?_; refine kq 2 ?_; refine kq 3 ?_; refine kq 4 ?_; refine kq 6 ?_; refine kq 7 ?_; refine kh 8 (fun w h => (h.cell (p := ⟨b, off, none⟩) hbl5).trans hx5) ?_; refine zS 5 fun K hK => ?_; go_simp; refine zT (HHX.o _ hHeld) fun w6 hb6 => ?_; have HV6 := hHeld.trans (hb6.mono hHeld.size); go_wp2_with fail
     refine zK hK (HV6) fun hHeld => ?_; clear hK K; refine kq 9 ?_ (hy := by intro w h; have z := heq; have z2 := vX; go_simp; try with_reducible rfl); refine kq 10 ?_; refine kq 11 ?_; refine kq 12 ?_; refine zD ?_; go_wp2_with fail
     exact zC (v := .tuple #[.slice (some ⟨b, off + 1, none⟩) r.length (cap - 1), .bool false]) (by simp [results, results114, go_sem]) rfl (by rw [HL.o]; exact uF.none (kF HG5.o (hHeld.mono HG5.o.size)) _)
def unp (n : Nat) : Bool := decide (n <= 32) || decide (126 < n)
theorem idx_unp (l : List UInt8) : ∀ f pos, l.length - pos <= f -> decide (0 <= Lib.idxFuncFrom unp true (str l) f pos) = (l.drop pos).any fun c => unp c.toNat
 |0, pos, h => by
  rw [yO om]
  rfl
 |f + 1, pos, h => by
  unfold Lib.idxFuncFrom
  by_cases hlt : pos < l.length
  ·have hps : pos < (str l).size := by rw [zZ]; exact hlt
   obtain ⟨c, hc0⟩ : ∃ c : UInt8, l[pos]'hlt = c := ⟨_, rfl⟩; have hdr : l.drop pos = c :: l.drop (pos + 1) := by rw [yE hlt, hc0]
   have hgs := zAt l pos hlt; rw [hc0] at hgs; rw [zN hps, hdr, List.any_cons]
   by_cases hb : 128 <= c.toNat
   ·obtain ⟨d1, -, -, -, -⟩ := zEy (str l) pos hps (by rw [hgs]; exact hb)
    have e1 : unp (Utf8.decode (str l) pos).1 = true := by unfold unp; simp; omega
    have e2 : unp c.toNat = true := by unfold unp; simp; omega
    rw [zN e1, e2]; simp
   ·have e : Utf8.decode (str l) pos = (c.toNat, 1) := by
     unfold Utf8.decode
     show (if ((str l).get! (pos + 0)).toNat < 128 then (((str l).get! (pos + 0)).toNat, 1) else _) = _
     rw [xN, hgs, zN om]
    rw [e]; simp only
    split
    ·rename_i h1; rw [h1]; simp
    ·rename_i h1
     rw [idx_unp l f (pos + 1) om, Bool.eq_false_iff.2 h1]
     rfl
  ·have hps : ¬ pos < (str l).size := by rw [zZ]; exact hlt
   rw [zH hps, yO om]
   rfl
theorem any_printed (l : List UInt8) (h : l ≠ []) : decide (0 <= Lib.idxFunc unp true (str l)) = !Sc.printed l := by
 unfold Lib.idxFunc; rw [idx_unp l _ 0 (by rw [zZ]; omega), xU]; unfold Sc.printed; simp only [qR, h, not_false_eq_true, decide_true, zAl]; rw [rV]; simp only [List.any_eq_true, Bool.not_eq_true', List.all_eq_false]
 constructor
 ·rintro ⟨c, hc, h1⟩; refine ⟨c, hc, ?_⟩; unfold unp at h1; simp at h1 ⊢; omega
 ·rintro ⟨c, hc, h1⟩; refine ⟨c, hc, ?_⟩; unfold unp; simp at h1 ⊢; omega
theorem unp_at (w : World) : PredAt prog 108 #[] encR unp w := fun W r _ => by
 unfold FnGives unp
 by_cases h1 : r <= 32 <;> by_cases h2 : 126 < r
 all_goals
  have z1 : (r : Int) <= 32 ↔ r <= 32 := om; have z2 : (126 : Int) < (r : Int) ↔ 126 < r := om
  go_enter func108, ntmps108
  go_wp2
  all_goals first | (exfalso; omega) | (go_ret; exact ⟨by simp [h1, h2], 0, rfl⟩)
theorem contains_unp (x : List UInt8) (h : x ≠ []) (w : World) : zCB 111 #[.string (str x), .func (.func 108) #[] #[]] w (.bool (!Sc.printed x)) := by
 have hcon := Any.strings_ContainsFunc Tryz.containsFunc 108 #[] (enters_of func108 kf rfl) unp (str x) w (unp_at w); change Calls prog 111 _ _ _ at hcon; rw [any_printed x h] at hcon; exact hcon
theorem texts_read (lo hi B : Nat) (w : World) (h1 : lo <= B) (h2 : B < hi) (hb : Blk w B 163 #[.func (.func 108) #[] #[]]) : wN .T 110 #[.pointer (some ⟨B, 0, none⟩)] lo hi w := by
 intro W X s v l Y hY hN ha hh ht hX hs hin hw hl hv; have hB := ha.blk hb h1 h2; simp only [uJ, yC, yJ]
 cases l with
 |nil =>
  have HO : Hid (Sc.read .T s.t [] = none) := qh rfl; rw [HO.o]; obtain ⟨pp, cap, rfl, c1, c2, hR, hq⟩ := hv
  go_enter func110, ntmps110
  go_wp2_with fail
  refine yB (S := fun W' => zW W W') kf zb.drew (fun hHeld => ?_); refine kq 0 ?_; refine kq 1 ?_; refine kq 2 ?_; refine kq 3 ?_; refine tn 4 ?_; refine tn 5 ?_; refine tn 6 ?_; refine tn 7 ?_; refine kq 8 ?_; refine kq 9 ?_; refine tn 10 ?_; refine tn 11 ?_; refine tn 12 ?_; refine tn 13 ?_; refine tn 14 ?_; refine kq 15 ?_; refine zD ?_; go_wp2_with fail
  exact zC (v := .tuple #[.slice none 0 0, .bool false]) (by simp [results, results110, go_sem]) rfl (uF.none (uE hHeld _) _)
 |cons x r =>
  have HS := qh hs; have HIn := qh hin; have hXl := hs.lt; obtain ⟨pp, cap, rfl, c1, c2, hR, hq⟩ := hv; simp only [zI] at c1; obtain ⟨b, off, rfl, hbl2, hc⟩ := hR.at (i := 0) zi; have hx := hc 0 (.string (str x)) rfl; simp only [jP, xN] at hx; have hbY := hq _ rfl zi; have hbq := hY _ hbY; have HR := qh hR; have hl1 : r.length + 1 <= 1048576 := by have := hl.1; simpa using this
  have hn0 : ((r.length : Int) + 1 == 0) = false := zo; have htl := vX; have hBc := hB.cell 0; simp only [xD, xA] at hBc; have hBl := hB.lt; have hx0 : (0 : Int) < (r.length : Int) + 1 := om; clear hc hR hs hin ha hq ht hl hB hb
  by_cases h0 : x = []
  ·have HL : Hid (Sc.read .T s.t (x :: r) = none) := qh (by subst h0; simp [Sc.read, Sc.printed])
   have he0 : (x == ([] : List UInt8)) = true := by simpa using h0
   rw [HL.o]; clear h0
   go_enter func110, ntmps110
   go_wp2_with fail
   refine yB (S := fun W' => zW W W') kf zb.drew (fun hHeld => ?_); refine kq 0 ?_; refine kq 1 ?_; refine kq 2 ?_; refine kq 3 ?_; refine kq 4 ?_; refine kq 5 ?_; refine kh 6 (fun w h => (h.cell (p := ⟨b, off, none⟩) hbl2).trans hx) ?_; refine kq 7 ?_; refine kq 8 ?_; refine kq 9 ?_; refine tn 10 ?_; refine tn 11 ?_; refine tn 12 ?_; refine tn 13 ?_; refine tn 14 ?_; refine kq 15 ?_; refine zD ?_; go_wp2_with fail
   exact zC (v := .tuple #[.slice none 0 0, .bool false]) (by simp [results, results110, go_sem]) rfl (uF.none (uE hHeld _) _)
  have he0 : (x == ([] : List UInt8)) = false := by simpa using h0
  have HC := qh fun W' => contains_unp x h0 W'; clear h0; have HO : Hid (Sc.read .T s.t (x :: r) = if Sc.printed x = true then some ({ s.t with text := x }, r) else none) := qh rfl; generalize Sc.read .T s.t (x :: r) = ro at *; generalize Sc.printed x = pr at *
  go_enter func110, ntmps110
  go_wp2_with fail
  refine yB (S := fun W' => zW W W') kf zb.drew (fun hHeld => ?_); refine kq 0 ?_; refine kq 1 ?_; refine kq 2 ?_; refine kq 3 ?_; refine kq 4 ?_; refine kq 5 ?_; refine kh 6 (fun w h => (h.cell (p := ⟨b, off, none⟩) hbl2).trans hx) ?_; refine kq 7 ?_; refine kq 8 ?_; refine kq 9 ?_; refine kq 10 ?_; refine kq 11 ?_; refine kh 12 (fun w h => (h.cell (p := ⟨b, off, none⟩) hbl2).trans hx) ?_; refine kh 13 (fun w h => (h.cell (p := ⟨B, 0, none⟩) hBl).trans hBc) ?_; refine zS 14 fun K hK => ?_; go_simp; refine zT (HC.o _) fun w6 hb6 => ?_; have HV6 := hHeld.trans (hb6.mono hHeld.size); go_wp2_with fail
  refine zK hK (HV6) fun hHeld => ?_; clear hK K; refine kq 15 ?_; refine zD ?_
  cases pr with
  |false =>
   have HL : Hid (ro = none) := qh (by rw [HO.o]; rfl); go_wp2_with fail
   exact zC (v := .tuple #[.slice none 0 0, .bool false]) (by simp [results, results110, go_sem]) rfl (by rw [HL.o]; exact uF.none (uE hHeld _) _)
  |true =>
   have HL : Hid (ro = some ({ s.t with text := x }, r)) := qh (by rw [HO.o]; rfl); have hx6 := (hHeld.cell (p := ⟨b, off, none⟩) hbl2).trans hx; have HS6 := qh (HS.o.next hHeld); have c32 := HS6.o.c32; have f32 := HS6.o.fz 32; have HG : Hid (W.grownBy (w6.setCell ⟨X, 32, none⟩ (.string (str x))) (some X)) := qh (uK (uE hHeld _) (vH _ _ _ _)); have HV : Hid (RdP (w6.setCell ⟨X, 32, none⟩ (.string (str x))) 1 encS (some ⟨b, off, none⟩) (x :: r)) := qh (HR.o.grownS HG.o fun a e => by cases e; simp; exact fun h => hbq h.symm); have HI : Hid (xX Y (w6.setCell ⟨X, 32, none⟩ (.string (str x))) { s with t := { s.t with text := x } }) := qh (by have h9 := HIn.o.grown HG.o (fun b hb => by simp; exact fun h => hY b hb h.symm); exact ⟨h9.l, h9.r, h9.ws, h9.b⟩); have h1le : (1 : Int) <= (r.length : Int) + 1 := om
   by_cases hcap : cap = 1
   ·subst hcap
    obtain rfl : r = [] := zX om; go_wp2_with fail
    exact zC (v := .tuple #[.slice (some ⟨b, off, none⟩) 0 0, .bool true]) (by simp [results, results110, go_sem]) rfl (by rw [HL.o]; exact uF.some HG.o _ _ [] (HS6.o.setT x) HI.o (SlP.tailA zi HV.o hbY) (fun _ => rfl))
   ·go_wp2_with fail
    exact zC (v := .tuple #[.slice (some ⟨b, off + 1, none⟩) r.length (cap - 1), .bool true]) (by simp [results, results110, go_sem]) rfl (by rw [HL.o]; exact uF.some HG.o _ _ r (HS6.o.setT x) HI.o (SlP.tailB c1 c2 HV.o hbY) (fun _ => rfl))
open Go.ColonPlain
theorem join_snoc (ws : List Hp.Wd) (x : Hp.Wd) (h : ws ≠ []) : Hp.join (ws ++ [x]) = Hp.join ws ++ 32 :: x := by
 induction ws with
 | nil => exact absurd rfl h
 |cons w r ih =>
  cases r with
  | nil => rfl
  |cons v t =>
   have := ih zi; simp only [yC, Hp.join] at this ⊢; rw [this]; simp
theorem join_take (ws : List Hp.Wd) (k : Nat) : (Hp.join (ws.take k)).length <= (Hp.join ws).length := by
 induction ws generalizing k with
 | nil => simp [Hp.join]
 |cons w r ih =>
  cases k with
  | zero => simp [Hp.join]
  |succ k =>
   cases r with
   | nil => simp [Hp.join]
   |cons v t =>
    have := ih k
    cases k with
    | zero => simp [Hp.join]
    |succ k =>
     simp only [List.take_succ_cons, Hp.join, zG, zI] at this ⊢; omega
theorem r32_joined (ws : List Hp.Wd) (hw : ws.length <= 1048576) (hj : (Hp.join ws).length <= 1073741824) (v : Value) (w : World) (hv : SlR w 1 encS v ws) :
  zCQ 64 #[v] w (.string (str (Hp.join ws))) := by
 obtain ⟨p, cap, rfl, c1, c2, hR⟩ := hv; have HR := qh hR; clear hR
 go_enter func64, ntmps64
 go_wp2_with fail
 go_loop [3, 4] (fun vs vi => ∃ k : Nat, vi = .int .i64 k /\ k <= ws.length /\ vs = .string (str (Hp.join (ws.take k)))) (fun _ vi => ws.length - (intOf vi).toNat)
 case atStart => exact ⟨0, rfl, yQ _, rfl⟩
 case round =>
  obtain ⟨k, rfl, hk, rfl⟩ := hrel
  by_cases hlt : k < ws.length
  ·obtain ⟨b, off, rfl, hbl, hc⟩ := HR.o.at hlt
   have hx := hc 0 (.string (str ws[k])) rfl; simp only [jN, xN] at hx; have e1 : ws.take (k + 1) = ws.take k ++ [ws[k]] := yA hlt; have hj1 := yK (join_take ws (k + 1)) hj
   have HE : Hid (Hp.join (ws.take (k + 1)) = if 0 < k then Hp.join (ws.take k) ++ 32 :: ws[k] else ws[k]) := qh (by
    rw [e1]
    split
    ·exact join_snoc _ _ (fun h => by have := yG List.length h; rw [yV, xI] at this; omega)
    ·have : k = 0 := om
     subst this; rfl)
   have hs1 : (str (Hp.join (ws.take k))).size = (Hp.join (ws.take k)).length := zZ _; have hs2 : (str ws[k]).size = ws[k].length := zZ _; have hjk := yK (join_take ws k) hj
   have hk2 : (ws[k]).length <= 1073741824 := by
    have h9 := HE.o; rw [h9] at hj1
    split at hj1
    ·simp at hj1; omega
    ·exact hj1
   have hk3 : 0 < k -> (Hp.join (ws.take k)).length + 1 + (ws[k]).length <= 1073741824 := fun h => by
    have h9 := HE.o; rw [zN h] at h9; rw [h9] at hj1; simp at hj1; omega
   clear hc e1 hj1; have HY : Hid (k = 0 -> Hp.join (ws.take k) = []) := qh fun h => by rw [h]; rfl
   generalize ws[k] = x at *; generalize Hp.join (ws.take k) = y at *
   have hs3 : (str y ++ { data := #[32] }).size = y.length + 1 := by
    have : ({ data := #[32] } : ByteArray) = str [32] := rfl; rw [this, xJ, zZ]; simp
   by_cases h0 : 0 < k
   ·have h4 := hk3 h0
    have HE2 : Hid (str y ++ { data := #[32] } ++ str x = str (Hp.join (ws.take (k + 1)))) := qh (by
     have : ({ data := #[32] } : ByteArray) = str [32] := rfl; rw [HE.o, zN h0, this, xJ, xJ]; simp)
    clear hk3; go_wp2_with fail
    go_round
    case rel => exact ⟨k + 1, by go_num, om, by rw [HE2.o]⟩
    case measure => simp [intOf]; omega
   ·have HE2 : Hid (y = [] /\ x = Hp.join (ws.take (k + 1))) := qh ⟨HY.o om, by rw [HE.o, zH h0]⟩
    clear hk3; go_wp2_with fail
    go_round
    case rel => exact ⟨k + 1, by go_num, om, by rw [← HE2.o.2, HE2.o.1, xJ]; rfl⟩
    case measure => simp [intOf]; omega
  ·obtain rfl : k = ws.length := om
   have HE : Hid (Hp.join (ws.take ws.length) = Hp.join ws) := qh (by rw [xK])
   go_wp2
   go_ret
   exact ⟨rfl, rfl⟩
end Go.Proofs.YtdbgeobolongmaaGreatDoor
