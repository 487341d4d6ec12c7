import Derived.Test.YtilahcnpjbnjiaaGreatDoorMSpcR
import Derived.Deep.WholeRow
import Derived.Test.YtilahcnpjbnjiaaGreatDoorMSegA
/- Layer 12's laws: same. -/
namespace Go.Proofs.YtilahcnpjbnjiaaGreatDoor
set_option linter.unusedVariables false
set_option linter.unusedSimpArgs false
open Go.RowKit Go.Shelf Go.Proofs

/-- same, between two calls: the space, and the reference's box -/
structure VU (w W : World) (g : Nat) (r : Option Nat) (m m' : Sp.Spc) (vL : Value) : Prop where
  S : SpcR W g r m
  U : QU w W w.heap.size m' vL
theorem VU.next {w W : World} {g : Nat} {r : Option Nat} {m m' : Sp.Spc} {vL : Value} (h : VU w W g r m m' vL) {W' : World} (hb : Below W.heap.size W W') : VU w W' g r m m' vL := ⟨h.S.below hb, h.U.next hb⟩
theorem VU.drew {w W : World} {g : Nat} {r : Option Nat} {m m' : Sp.Spc} {vL : Value} (h : VU w W g r m m' vL) : VU w W.drew g r m m' vL := h.next (Below.refl _ _).drew
/-- and the two areas that it compares -/
structure VX (w W : World) (g : Nat) (r : Option Nat) (m : Sp.Spc) (vL : Value) (x y : Nat) (a b : Int) : Prop where
  V : VU w W g r m m vL
  bx : Blk W x 35 #[.int .i64 a, .int .i64 b]
  bY : Blk W y 35 #[.int .i64 a, .int .i64 b]
theorem VX.next {w W : World} {g : Nat} {r : Option Nat} {m : Sp.Spc} {vL : Value} {x y : Nat} {a b : Int} (h : VX w W g r m vL x y a b) {W' : World} (hb : Below W.heap.size W W') : VX w W' g r m vL x y a b := ⟨h.V.next hb, h.bx.below hb h.bx.lt, h.bY.below hb h.bY.lt⟩
theorem VX.drew {w W : World} {g : Nat} {r : Option Nat} {m : Sp.Spc} {vL : Value} {x y : Nat} {a b : Int} (h : VX w W g r m vL x y a b) : VX w W.drew g r m vL x y a b := h.next (Below.refl _ _).drew
theorem spc_Blocks' (g : Nat) (m : Sp.Spc) (hl : m.L.length ≤ 1000000) (r : Option Nat) (w : World) (h : SpcR w g r m) :
    Calls Tryz.prog 46 #[.pointer (some ⟨g, 0, none⟩)] w (RetRow w.heap.size 99 4 m.L.length (flat encBk m.L) w) := by
  obtain ⟨v0, v1, v2, vb, h⟩ := h
  exact spc_Blocks g v0 v1 v2 vb m hl r w h
theorem spc_Index' (g : Nat) (n : Int) (m : Sp.Spc) (hm : Sp.WF m) (r : Option Nat) (w : World) (h : SpcR w g r m) :
    Calls Tryz.prog 37 #[.pointer (some ⟨g, 0, none⟩), .int .i64 n] w (RetIB (Sp.indexR m n) w) := by
  obtain ⟨v0, v1, v2, vb, h⟩ := h
  exact spc_Index g n v0 v1 v2 vb m hm w h.1
end Go.Proofs.YtilahcnpjbnjiaaGreatDoor

/- Layer 12's laws: a step of both, in memory. -/
namespace Go.Proofs.YtilahcnpjbnjiaaGreatDoor
set_option linter.unusedVariables false
set_option linter.unusedSimpArgs false
open Go.RowKit Go.Shelf Go.Proofs

/-- the document's blocks lie neither in the space nor in its row -/
def SlF4 (W : World) (g : Nat) (r : Option Nat) (v : Value) (L : List Sp.Bk) : Prop := SlR W 4 encBk v L ∧ ∀ b, v.ownBlock = some b → b ≠ g ∧ some b ≠ r
/-- both, behind a step -/
structure Bth (W w' : World) (g : Nat) (r r' : Option Nat) (m' : Sp.Spc) (v0 v' : Value) : Prop where
  S : SpcR w' g r' m'
  nr : NewRow W r r'
  fr : Frm g r W w'
  old : Old g W w'
  d : SlF4 w' g r' v' m'.L
  nv : NewV W v0 v'
theorem Frm.rowAt {g : Nat} {r : Option Nat} {W W' : World} (h : Frm g r W W') {z : Nat} (hz : W.heap.size ≤ z) (cs : Array Value) : Frm g r W (W'.setRow z cs) := by
  have hd := below_setRow (Below.refl 0 W') (Nat.zero_le z) cs
  refine ⟨hd.os.trans h.os, hd.tape.trans h.tape, hd.output.trans h.output, Nat.le_trans h.size hd.size, fun k hk hg hr => ?_⟩
  rw [setRow_other W' z k cs (by omega)]
  exact h.block k hk hg hr
/-- another block's row turns -/
theorem SpcR.otherRow {W : World} {g : Nat} {r : Option Nat} {m : Sp.Spc} (h : SpcR W g r m) (z : Nat) (cs : Array Value) (h1 : z ≠ g) (h2 : some z ≠ r) (h3 : ∀ k : Nat, k ≤ 2 → ∀ a n c, W.cell? ⟨g, k, none⟩ = some (.slice (some a) n c) → a.block ≠ z) : SpcR (W.setRow z cs) g r m := by
  obtain ⟨v0, v1, v2, vb, k1, k2, k3, k4, k5, k6⟩ := h
  have key : ∀ (x : Value) (l : List Sp.S) (k : Nat), k ≤ 2 → W.cell? ⟨g, k, none⟩ = some x → SlF W g r x l → SlF (W.setRow z cs) g r x l := fun x l k hk hc hx => by
    refine ⟨(Frm.setRow z none W cs).slr hx.1 fun b hb => ⟨fun e => ?_, by simp⟩, hx.2⟩
    obtain ⟨p, cap, hv, _⟩ := hx.1
    rw [hv] at hb hc
    cases p with
    | none => cases hb
    | some a =>
      have hab : a.block = b := Option.some.inj hb
      exact h3 k hk a _ _ hc (by omega)
  have hgr : W.grownBy (W.setRow z cs) (some z) := by
    have hd := below_setRow (Below.refl 0 W) (Nat.zero_le z) cs
    exact ⟨hd.os, hd.tape, hd.output, hd.size, fun k hk hne => setRow_other W z k cs (fun e => hne (by rw [e]))⟩
  exact ⟨v0, v1, v2, vb, k1.otherRow _ _ (Ne.symm h1), key v0 _ 0 (by omega) (k1.cell 0) k2, key v1 _ 1 (by omega) (k1.cell 1) k3, key v2 _ 2 (by omega) (k1.cell 2) k4, k5.kept hgr (Or.inr fun e => h2 (e.symm.trans k6)), k6⟩
theorem SpcR.slices {W : World} {g : Nat} {r : Option Nat} {m : Sp.Spc} (h : SpcR W g r m) : ∀ k : Nat, k ≤ 2 → ∀ a n c, W.cell? ⟨g, k, none⟩ = some (.slice (some a) n c) → a.block < W.heap.size ∧ a.block ≠ g ∧ some a.block ≠ r := by
  obtain ⟨v0, v1, v2, vb, k1, k2, k3, k4, k5, k6⟩ := h
  have key : ∀ (x : Value) (l : List Sp.S), SlF W g r x l → ∀ a n c, x = .slice (some a) n c → a.block < W.heap.size ∧ a.block ≠ g ∧ some a.block ≠ r := fun x l hx a n c e => by
    subst e
    exact ⟨hx.1.own_lt a.block rfl, hx.2 a.block rfl⟩
  intro k hk a n c hc
  have hk3 : k = 0 ∨ k = 1 ∨ k = 2 := by omega
  rcases hk3 with rfl | rfl | rfl
  · exact key v0 _ k2 a n c (Option.some.inj ((k1.cell 0).symm.trans hc))
  · exact key v1 _ k3 a n c (Option.some.inj ((k1.cell 1).symm.trans hc))
  · exact key v2 _ k4 a n c (Option.some.inj ((k1.cell 2).symm.trans hc))
theorem Old.below {g : Nat} {W W' W'' : World} (h : Old g W W') (hg : g < W'.heap.size) (hb : Below W'.heap.size W' W'') : Old g W W'' := fun k hk a n c hc => h k hk a n c (by rw [← hb.cell (p := ⟨g, k, none⟩) hg]; exact hc)
theorem Old.row {g : Nat} {W W' : World} (h : Old g W W') {z : Nat} (hz : z ≠ g) (cs : Array Value) : Old g W (W'.setRow z cs) := fun k hk a n c hc => h k hk a n c (by
  rw [← hc]
  exact (World.cell?_of_block (a := ⟨g, k, none⟩) (setRow_other W' z g cs (Ne.symm hz))).symm)
/-- the document's step first, then the space's; at last the result's block is written -/
theorem both {w W0 w1 W2 w3 w4 : World} {g : Nat} {r : Option Nat} {m q : Sp.Spc} {vL v' : Value} (hS : SpcR w g r m) (hv : SlF4 w g r vL m.L)
    (hb0 : Below w.heap.size w W0) (h0 : w.heap.size + 2 < W0.heap.size) (h1 : SlR w1 4 encBk v' q.L) (hn1 : NewV W0 vL v') (hb1 : Below W0.heap.size W0 w1) (hb2 : Below w1.heap.size w1 W2)
    (hL : Left g r q W2 w3) (hb3 : Below w3.heap.size w3 w4) (cs : Array Value) : ∃ r', Bth w (w4.setRow (w.heap.size + 2) cs) g r r' q vL v' := by
  obtain ⟨r', S3, nr, fr, old⟩ := hL
  have hg := hS.lt
  have hr := hS.row
  have s0 : w.heap.size ≤ W0.heap.size := hb0.size
  have s1 := hb1.size
  have s2 := hb2.size
  have s3 := fr.size
  have s4 := hb3.size
  have hb02 : Below w.heap.size w W2 := (hb0.trans (hb1.mono s0)).trans (hb2.mono (by omega))
  have hrr : ∀ b, r' = some b → b < w.heap.size ∨ W2.heap.size ≤ b := fun b hb => by
    rcases nr with e | ⟨c, e, hc⟩
    · exact Or.inl (hr b (e.symm.trans hb)).2
    · rw [e] at hb; cases hb; exact Or.inr hc
  have hvb : ∀ b, v'.ownBlock = some b → (vL.ownBlock = some b ∧ b < w.heap.size) ∨ (W0.heap.size ≤ b ∧ b < w1.heap.size) := fun b hb => by
    rcases hn1 b hb with e | e
    · exact Or.inl ⟨e, hv.1.own_lt b e⟩
    · exact Or.inr ⟨e, h1.own_lt b hb⟩
  have S4 := S3.below hb3
  have O4 := old.below S3.lt hb3
  have F24 : Frm g r W2 w4 := fr.trans (Frm.of_below hb3) nr
  have O24 : Old g w w4 := (Old.of_below hg hb02).trans O4 (by omega)
  have hne : ∀ b, v'.ownBlock = some b → b ≠ g ∧ some b ≠ r ∧ some b ≠ r' ∧ b ≠ w.heap.size + 2 := fun b hb => by
    rcases hvb b hb with ⟨e, h⟩ | ⟨h, h'⟩
    · obtain ⟨d1, d2⟩ := hv.2 b e
      refine ⟨d1, d2, fun e' => ?_, by omega⟩
      rcases nr with e3 | ⟨c, e3, hc⟩
      · exact d2 (e'.trans e3)
      · rw [e3] at e'; cases e'; omega
    · refine ⟨by omega, fun e' => by have := (hr b e'.symm).2; omega, fun e' => by have := hrr b e'.symm; omega, by omega⟩
  refine ⟨r', S4.otherRow _ _ (by omega) (fun e => by have := hrr _ e.symm; omega) (fun k hk a n c hc => ?_), ?_, ?_, ?_, ⟨?_, fun b hb => ⟨(hne b hb).1, (hne b hb).2.2.1⟩⟩, fun b hb => ?_⟩
  · rcases O4 k hk a n c hc with e | ⟨j, a', n', c', hj, hc', e⟩
    · omega
    · have hcw : w.cell? ⟨g, j, none⟩ = some (.slice (some a') n' c') := by rw [← hb02.cell (p := ⟨g, j, none⟩) hg]; exact hc'
      have := (hS.slices j hj a' n' c' hcw).1
      omega
  · rcases nr with e | ⟨c, e, hc⟩
    · exact Or.inl e
    · exact Or.inr ⟨c, e, by omega⟩
  · exact ((Frm.of_below hb02).trans F24 (NewRow.refl _ _)).rowAt (by omega) _
  · exact O24.row (by omega) _
  · have t2 := h1.below hb2 (Nat.le_refl _)
    have t4 := F24.slr t2 (fun b hb => ⟨(hne b hb).1, (hne b hb).2.1⟩)
    exact (Frm.setRow _ none w4 cs).slr t4 (fun b hb => ⟨(hne b hb).2.2.2, by simp⟩)
  · rcases hvb b hb with ⟨e, h⟩ | ⟨h, h'⟩
    · exact Or.inl e
    · exact Or.inr (by omega)
end Go.Proofs.YtilahcnpjbnjiaaGreatDoor

/- Layer 12's laws: a step of both (areas, take, free). -/
namespace Go.Proofs.YtilahcnpjbnjiaaGreatDoor
set_option linter.unusedVariables false
set_option linter.unusedSimpArgs false
open Go.RowKit Go.Shelf Go.Proofs

theorem wpList_store_newS {P : Program} {ops : Array Oper} {rest : List Oper} {o : Oper} {a : Act} {w : World} {Q : Exit → Act → World → Prop} (hgd : o.guard = none) (ty : TypeId) (x y : Operand) (ho : o.op = .store ty x y)
    (cells : Array Value) (hx : a.eval x = .pointer (some ⟨w.heap.size, 0, none⟩)) (hy : a.eval y = .agg cells) (t : TypeId) (old : Array Value) (hi : (P.info? ty).map (·.size) = some cells.size) (hold : old.size = cells.size) (h1 : cells.all (·.oneCell') = true)
    (h : wpList P ops Q rest (a.put o.dst undef) (w.alloc (.cells cells t))) : wpList P ops Q (o :: rest) a (w.alloc (.cells old t)) := by
  refine wpList_store_row hgd ty x y ho w.heap.size cells hx hy t old (heap_alloc_last w _) hi hold h1 ?_
  rw [World.setRow_alloc_new]
  exact h
/-- both come back, the answers being the same -/
def RetDo (g : Nat) (r : Option Nat) (m' : Sp.Spc) (vL : Value) (w : World) (e : Ending) (w' : World) : Prop := ∃ v' r', e = .returned (.tuple #[.agg (sA m' v'), .bool true]) ∧ Bth w w' g r r' m' vL v'
def stpA (k o a z f l : Int) : Array Value := #[.int .i64 k, .int .i64 o, .int .i64 a, .int .i64 z, .int .i64 f, .int .i64 l]
section
variable {w W W' : World} {s : Nat} {q : Sp.Spc} {v' : Value} {X : Array Value}
end
end Go.Proofs.YtilahcnpjbnjiaaGreatDoor

/- Layer 12's laws: a step of both (draw; none), any step. -/
namespace Go.Proofs.YtilahcnpjbnjiaaGreatDoor
set_option linter.unusedVariables false
set_option linter.unusedSimpArgs false
open Go.RowKit Go.Shelf Go.Proofs

/-- both results of the document's Draw, stored -/
def W2 (w1 : World) (q : Sp.Spc) (v' : Value) (a b : Int) : World := (((w1.alloc (.cells (sA Sp.spc0 (.slice none 0 0)) 44)).alloc (.cells #[.int .i64 0, .int .i64 0] 35)).setRow w1.heap.size (sA q v')).setRow (w1.heap.size + 1) #[.int .i64 a, .int .i64 b]
theorem W2.at {w1 : World} (q : Sp.Spc) (v' : Value) (a b : Int) : Blk ((w1.alloc (.cells (sA Sp.spc0 (.slice none 0 0)) 44)).alloc (.cells #[.int .i64 0, .int .i64 0] 35)) w1.heap.size 44 (sA Sp.spc0 (.slice none 0 0)) ∧
    Blk (((w1.alloc (.cells (sA Sp.spc0 (.slice none 0 0)) 44)).alloc (.cells #[.int .i64 0, .int .i64 0] 35)).setRow w1.heap.size (sA q v')) (w1.heap.size + 1) 35 #[.int .i64 0, .int .i64 0] ∧
    Blk (W2 w1 q v' a b) w1.heap.size 44 (sA q v') ∧ Blk (W2 w1 q v' a b) (w1.heap.size + 1) 35 #[.int .i64 a, .int .i64 b] ∧ Below w1.heap.size w1 (W2 w1 q v' a b) := by
  have hA : Blk ((w1.alloc (.cells (sA Sp.spc0 (.slice none 0 0)) 44)).alloc (.cells #[.int .i64 0, .int .i64 0] 35)) w1.heap.size 44 (sA Sp.spc0 (.slice none 0 0)) := (Blk.new w1 _ _).alloc _
  have hB := Blk.new (w1.alloc (.cells (sA Sp.spc0 (.slice none 0 0)) 44)) 35 #[.int .i64 0, .int .i64 0]
  rw [World.size_alloc] at hB
  have hB' := hB.otherRow w1.heap.size (sA q v') (by omega)
  exact ⟨hA, hB', (hA.setRow _).otherRow _ _ (by omega), hB'.setRow _, below_setRow (below_setRow ((belowA w1 _).alloc (by simp) _) (Nat.le_refl _) _) (by omega) _⟩
end Go.Proofs.YtilahcnpjbnjiaaGreatDoor

/- Layer 12's laws: any step of both; the example. -/
namespace Go.Proofs.YtilahcnpjbnjiaaGreatDoor
set_option linter.unusedVariables false
set_option linter.unusedSimpArgs false
open Go.RowKit Go.Shelf Go.Proofs

/-- a script's step, as an argument, and as cells -/
def encStp (x : Sp.Stp) : List Value := [.int .i64 x.kind, .int .i64 x.owner, .int .i64 x.area, .int .i64 x.size, .int .i64 x.sp.1, .int .i64 x.sp.2]
theorem encStp_len (x : Sp.Stp) : (encStp x).length = 6 := rfl
/-- a new space, and what has become of it -/
structure AW (w W : World) (g : Nat) (r : Option Nat) (m : Sp.Spc) : Prop where
  S : SpcR W g r m
  bel : Below w.heap.size w W
  hg : w.heap.size ≤ g
  hr : ∀ b, r = some b → w.heap.size ≤ b
theorem AW.next {w W W' : World} {g : Nat} {r : Option Nat} {m : Sp.Spc} (h : AW w W g r m) (hb : Below W.heap.size W W') : AW w W' g r m := ⟨h.S.below hb, h.bel.trans (hb.mono h.bel.size), h.hg, h.hr⟩
theorem AW.step {w W W' : World} {g : Nat} {r : Option Nat} {m m' : Sp.Spc} (h : AW w W g r m) (hL : Left g r m' W W') : ∃ r', AW w W' g r' m' ∧ NewRow W r r' := by
  obtain ⟨r', S, nr, fr, old⟩ := hL
  refine ⟨r', ⟨S, fr.below h.bel h.bel.size h.hg h.hr, h.hg, fun b hb => ?_⟩, nr⟩
  rcases nr with e | ⟨c, e, hc⟩
  · exact h.hr b (e.symm.trans hb)
  · rw [e] at hb; cases hb; have := h.bel.size; omega
structure AX (w W : World) (g : Nat) (r : Option Nat) (m : Sp.Spc) (x : Nat) (a b : Int) : Prop where
  A : AW w W g r m
  bx : Blk W x 35 #[.int .i64 a, .int .i64 b]
  n1 : x ≠ g
  n2 : some x ≠ r
theorem AX.next {w W W' : World} {g : Nat} {r : Option Nat} {m : Sp.Spc} {x : Nat} {a b : Int} (h : AX w W g r m x a b) (hb : Below W.heap.size W W') : AX w W' g r m x a b := ⟨h.A.next hb, h.bx.below hb h.bx.lt, h.n1, h.n2⟩
theorem AX.step {w W W' : World} {g : Nat} {r : Option Nat} {m m' : Sp.Spc} {x : Nat} {a b : Int} (h : AX w W g r m x a b) (hL : Left g r m' W W') : ∃ r', AX w W' g r' m' x a b := by
  obtain ⟨r', h1, h2⟩ := h.A.step hL
  obtain ⟨_, _, _, fr, _⟩ := hL
  refine ⟨r', h1, fr.blk h.bx h.n1 h.n2, h.n1, fun e => ?_⟩
  rcases h2 with e2 | ⟨c, e2, hc⟩
  · exact h.n2 (e.trans e2)
  · rw [e2] at e; cases e; have := h.bx.lt; omega
def aw1 : Sp.Spc := ⟨(16000, 23999), (0, 0), []⟩
def aw2 : Sp.Spc := ⟨(16000, 23999), (0, 0), [⟨(16, 18), 7, 0⟩]⟩
def aw3 : Sp.Spc := ⟨(16000, 23999), (0, 0), [⟨(16, 18), 7, 0⟩, ⟨(16001, 16001), 8, 1⟩]⟩
def aw4 : Sp.Spc := ⟨(16000, 23999), (0, 0), [⟨(16001, 16001), 8, 1⟩]⟩
theorem awk1 : Sp.carveR Sp.spc0 1 (16000, 23999) = (aw1, 0) := by rfl
theorem awk2 : Sp.indexR aw1 5 = (16005, true) := by rfl
theorem awk3 : Sp.drawR aw1 7 0 3 = (aw2, (16, 18), 0) := by rfl
theorem awk4 : Sp.ownerR aw2 17 = (7, 0) := by rfl
theorem awk5 : Sp.takeR aw2 8 (18, 19) = (aw2, 42) := by rfl
theorem awk6 : Sp.takeR aw2 8 (16001, 16001) = (aw3, 0) := by rfl
theorem awk7 : Sp.closeR aw3 1 = (aw3, 33) := by rfl
theorem awk8 : Sp.freeR aw3 7 (16, 18) = (aw4, 0) := by rfl
end Go.Proofs.YtilahcnpjbnjiaaGreatDoor

/- Layer 12's laws: the document's example. -/
namespace Go.Proofs.YtilahcnpjbnjiaaGreatDoor
set_option linter.unusedVariables false
set_option linter.unusedSimpArgs false
open Go.RowKit Go.Shelf Go.Proofs

theorem awf1 : Sp.WF aw1 := by have h := (Sp.carve_wf Sp.wf0 1 (16000, 23999)).1; rw [awk1] at h; exact h
theorem awf2 : Sp.WF aw2 := by have h := (Sp.draw_wf awf1 7 0 3).1; rw [awk3] at h; exact h
theorem awf3 : Sp.WF aw3 := by have h := (Sp.take_wf awf2 8 (16001, 16001)).1; rw [awk6] at h; exact h
end Go.Proofs.YtilahcnpjbnjiaaGreatDoor

/- Layer 12's laws: a script's round. -/
namespace Go.Proofs.YtilahcnpjbnjiaaGreatDoor
set_option linter.unusedVariables false
set_option linter.unusedSimpArgs false
open Go.RowKit Go.Shelf Go.Proofs

theorem cs7 {W : World} {b : Nat} {x1 y1 x2 y2 : Int} {L : List Sp.Bk} {v : Value} (h : Blk W b 44 (sA ⟨(x1, y1), (x2, y2), L⟩ v)) :
    W.cell? ⟨b, 0, none⟩ = some (.int .i64 0) ∧ W.cell? ⟨b, 1, none⟩ = some (.int .i64 0) ∧ W.cell? ⟨b, 2, none⟩ = some (.int .i64 x1) ∧ W.cell? ⟨b, 3, none⟩ = some (.int .i64 y1) ∧
    W.cell? ⟨b, 4, none⟩ = some (.int .i64 x2) ∧ W.cell? ⟨b, 5, none⟩ = some (.int .i64 y2) ∧ W.cell? ⟨b, 6, none⟩ = some v :=
  ⟨h.cell 0, h.cell 1, h.cell 2, h.cell 3, h.cell 4, h.cell 5, h.cell 6⟩
/-- both spaces between two steps: the space at g, the document's blocks in vL, the document's variable at z (which reads mb, vb) -/
structure RW (w W : World) (g : Nat) (r : Option Nat) (m : Sp.Spc) (vL : Value) (z : Nat) (mb : Sp.Spc) (vb : Value) : Prop where
  A : AW w W g r m
  d : SlF4 W g r vL m.L
  b : Blk W z 44 (sA mb vb)
  hz : w.heap.size ≤ z
  n1 : z ≠ g
  n2 : some z ≠ r
  n3 : vL.ownBlock ≠ some z
  n4 : ∀ k : Nat, k ≤ 2 → ∀ a n c, W.cell? ⟨g, k, none⟩ = some (.slice (some a) n c) → a.block ≠ z
section
variable {w W W' Wc : World} {g : Nat} {r r' : Option Nat} {m q mb : Sp.Spc} {vL v' vb : Value} {z : Nat}
theorem RW.next (h : RW w W g r m vL z mb vb) (hb : Below W.heap.size W W') : RW w W' g r m vL z mb vb :=
  ⟨h.A.next hb, ⟨h.d.1.below hb (Nat.le_refl _), h.d.2⟩, h.b.below hb h.b.lt, h.hz, h.n1, h.n2, h.n3, fun k hk a n c hc => h.n4 k hk a n c (by rw [← hb.cell (p := ⟨g, k, none⟩) h.A.S.lt]; exact hc)⟩
theorem RW.drew (h : RW w W g r m vL z mb vb) : RW w W.drew g r m vL z mb vb := h.next (Below.refl _ _).drew
theorem RW.step (h : RW w W g r m vL z mb vb) (hB : Bth W W' g r r' q vL v') : RW w W' g r' q v' z mb vb := by
  obtain ⟨hS, nr, fr, old, d, nv⟩ := hB
  obtain ⟨r2, hA2, -⟩ := h.A.step ⟨r', hS, nr, fr, old⟩
  have hzl := h.b.lt
  have hr2 : ∀ b, r' = some b → w.heap.size ≤ b := fun b hb => by
    rcases nr with e | ⟨c, e, hc⟩
    · exact h.A.hr b (e.symm.trans hb)
    · rw [e] at hb; cases hb; have := h.A.bel.size; omega
  refine ⟨⟨hS, hA2.bel, h.A.hg, hr2⟩, d, fr.blk h.b h.n1 h.n2, h.hz, h.n1, fun e => ?_, fun e => ?_, fun k hk a n c hc => ?_⟩
  · rcases nr with e2 | ⟨c, e2, hc⟩
    · exact h.n2 (e.trans e2)
    · rw [e2] at e; cases e; omega
  · rcases nv z e with e2 | e2
    · exact h.n3 e2
    · omega
  · rcases old k hk a n c hc with e | ⟨j, a', n', c', hj, hc', e⟩
    · omega
    · rw [← e]; exact h.n4 j hj a' n' c' hc'
theorem RW.row (h : RW w W g r m vL z mb vb) (q : Sp.Spc) (v : Value) : RW w (W.setRow z (sA q v)) g r m vL z q v := by
  refine ⟨⟨h.A.S.otherRow z _ h.n1 h.n2 h.n4, below_setRow h.A.bel h.hz _, h.A.hg, h.A.hr⟩, ⟨(Frm.setRow z none W _).slr h.d.1 (fun b hb => ⟨fun e => h.n3 (by rw [hb, e]), by simp⟩), h.d.2⟩, h.b.setRow _, h.hz, h.n1, h.n2, h.n3, fun k hk a n c hc => h.n4 k hk a n c ?_⟩
  rw [← hc]
  exact (World.cell?_of_block (a := ⟨g, k, none⟩) (setRow_other W z g _ (Ne.symm h.n1))).symm
theorem RW.first (hA : AW w W g none Sp.spc0) : RW w (W.alloc (.cells (sA Sp.spc0 (.slice none 0 0)) 44)) g none Sp.spc0 (.slice none 0 0) W.heap.size Sp.spc0 (.slice none 0 0) := by
  refine ⟨hA.next (belowA _ _), ⟨⟨none, 0, rfl, by simp [Sp.spc0], by omega, fun _ => rfl, fun a ha => by cases ha⟩, fun b hb => by cases hb⟩, Blk.new _ _ _, hA.bel.size, by have := hA.S.lt; omega, by simp, by simp [Value.ownBlock], fun k hk a n c hc => ?_⟩
  have := (hA.S.slices k hk a n c (by rw [← (belowA W _).cell (p := ⟨g, k, none⟩) hA.S.lt]; exact hc)).1
  omega
end
/-- the script's row, and the document's variable: what a round's region reads -/
structure SR (w W : World) (z : Nat) (m : Sp.Spc) (vL : Value) : Prop where
  b : Blk W z 44 (sA m vL)
  bel : Below w.heap.size w W
theorem SR.next {w W W' : World} {z : Nat} {m : Sp.Spc} {vL : Value} (h : SR w W z m vL) (hb : Below W.heap.size W W') : SR w W' z m vL := ⟨h.b.below hb h.b.lt, h.bel.trans (hb.mono h.bel.size)⟩
end Go.Proofs.YtilahcnpjbnjiaaGreatDoor

/- segment.owned. -/
namespace Go.Proofs.YtilahcnpjbnjiaaGreatDoor
set_option linter.unusedVariables false
set_option linter.unusedSimpArgs false
open Go.RowKit Go.Shelf Go.Proofs Go.OctetPlain
theorem seg_owned (g : Nat) (n : Int) (m : Sp.Spc) (hl : m.L.length ≤ 1000000) (r : Option Nat) (w : World) (h : SpcR w g r m) :
    Calls Tryz.prog 36 #[.pointer (some ⟨g, 0, none⟩), .int .i64 n] w fun e w' => e = .returned (.bool (decide (0 < (Sp.ownerR m n).1) && decide ((Sp.ownerR m n).2 = 2))) ∧ Below w.heap.size w w' := by
  have HO := Lib.hid (spc_Owner g n m hl r w h)
  generalize Sp.ownerR m n = q at *
  obtain ⟨a, b⟩ := q
  simp only at HO ⊢
  clear h
  go_enter Tryz.func36, Tryz.ntmps36
  go_wp2_with fail
  refine HO.out.mono ?_
  rintro e w2 ⟨rfl, b2⟩
  have B2 := Lib.hid b2
  clear b2
  by_cases h0 : 0 < a
  · by_cases h2 : b = 2
    · have e2 : (b == 2) = true := by simpa using h2
      go_wp2_with fail
      go_ret
      exact ⟨by simp [h0, h2], B2.out⟩
    · have e2 : (b == 2) = false := by simpa using h2
      go_wp2_with fail
      go_ret
      exact ⟨by simp [h0, h2], B2.out⟩
  · go_wp2_with fail
    go_ret
    exact ⟨by simp; intro h; omega, B2.out⟩
end Go.Proofs.YtilahcnpjbnjiaaGreatDoor

/- footplateref26.label; segment.Labels' closure. -/
namespace Go.Proofs.YtilahcnpjbnjiaaGreatDoor
set_option linter.unusedVariables false
set_option linter.unusedSimpArgs false
open Go.RowKit Go.Shelf Go.Proofs Go.OctetPlain

theorem owner_pos {m : Sp.Spc} (hm : Sp.WF m) (n : Int) : 0 ≤ (Sp.ownerR m n).1 := by
  by_cases h : (Sp.ownerR m n).1 = 0
  · omega
  · obtain ⟨b, hb, -, -, h3⟩ := Sg.owner_in h
    rw [h3]
    have := (hm.ok b hb).2.1
    simp only
    omega
def labelQ (lk : Bool) (n : Int) (qi : Int × Bool) (qo : Int × Int) : Int × Int :=
  if lk = false then (if qi.2 = false then (0, 52) else (qi.1, 0)) else if qo.1 = 0 ∨ qo.2 ≠ 2 then (0, 41) else (n, 0)
theorem labelQ_eq (m : Sp.Spc) (x : Sg.Seg) : Sg.labelR m x = labelQ x.link x.n (Sp.indexR m x.n) (Sp.ownerR m x.n) := rfl
set_option maxRecDepth 100000 in
set_option maxHeartbeats 2000000 in
theorem r26_label (m : Sp.Spc) (hm : Sp.WF m) (hl : m.L.length ≤ 1000000) (x : Sg.Seg) (vL : Value) (w : World) (hv : SlR w 4 encBk vL m.L) :
    Calls Tryz.prog 39 #[.agg (sA m vL), .agg #[.bool x.link, .int .i64 x.n]] w (RetII (Sg.labelR m x) w) := by
  have HQ := Lib.hid ((QU.first w m vL hv).next (belowA _ (.cells #[.bool x.link, .int .i64 x.n] 70)))
  have HX := Lib.hid fun W => r12_Index m hm vL (by obtain ⟨p, c, h, _⟩ := hv; exact ⟨p, _, c, h⟩) x.n W
  have HW := Lib.hid fun W h => r12_Owner m hl vL x.n W h
  have HK := Lib.hid (Blk.new (w.alloc (.cells (sA m vL) 44)) 70 #[.bool x.link, .int .i64 x.n])
  rw [labelQ_eq]
  obtain ⟨p, cap, rfl, -⟩ := hv
  generalize Sp.indexR m x.n = qi at *
  generalize Sp.ownerR m x.n = qo at *
  obtain ⟨lk, n⟩ := x
  obtain ⟨i1, i2⟩ := qi
  obtain ⟨o1, o2⟩ := qo
  obtain ⟨⟨x1, y1⟩, ⟨x2, y2⟩, L⟩ := m
  simp only [RetIB, RetII] at HX HW ⊢
  simp only [sA] at HQ HX HW HK ⊢
  clear hm
  cases lk with
  | false =>
    go_enter Tryz.func39, Tryz.ntmps39
    go_wp2_with (refine wpList_load_row rfl _ _ rfl _ rfl _ _ (0, 0) _ HQ.out.bx Tryz.underlying44 rfl infoS ?_)
    refine (HX.out _).mono ?_
    rintro e w2 ⟨rfl, b2⟩
    have B2 := Lib.hid (HQ.out.bel.trans (b2.mono HQ.out.bel.size))
    clear b2
    cases i2 with
    | false =>
      go_wp2_with fail
      exact bodyPost_ret (v := .tuple #[.int .i64 0, .int .i64 52]) (by simp [results, Tryz.results39, go_sem]) rfl ⟨rfl, B2.out⟩
    | true =>
      go_wp2_with fail
      exact bodyPost_ret (v := .tuple #[.int .i64 i1, .int .i64 0]) (by simp [results, Tryz.results39, go_sem]) rfl ⟨rfl, B2.out⟩
  | true =>
    go_enter Tryz.func39, Tryz.ntmps39
    go_wp2_with (refine wpList_load_row rfl _ _ rfl _ rfl _ _ (0, 0) _ HQ.out.bx Tryz.underlying44 rfl infoS ?_)
    refine (HW.out _ HQ.out.rd).mono ?_
    rintro e w2 ⟨rfl, b2⟩
    have B2 := Lib.hid (HQ.out.bel.trans (b2.mono HQ.out.bel.size))
    have K2 := Lib.hid (HK.out.below b2 HK.out.lt)
    have c1 := K2.out.cell 1
    simp only [World.size_alloc, List.getElem?_toArray, List.getElem?_cons_succ, List.getElem?_cons_zero] at c1
    clear b2
    by_cases h0 : o1 = 0
    · subst h0
      go_wp2_with fail
      exact bodyPost_ret (v := .tuple #[.int .i64 0, .int .i64 41]) (by simp [results, Tryz.results39, go_sem]) rfl ⟨by simp [labelQ], B2.out⟩
    · have e0 : (o1 == 0) = false := by simpa using h0
      by_cases h2 : o2 = 2
      · subst h2
        go_wp2_with fail
        exact bodyPost_ret (v := .tuple #[.int .i64 n, .int .i64 0]) (by simp [results, Tryz.results39, go_sem]) rfl ⟨by simp [labelQ, h0], B2.out⟩
      · have e2 : (o2 == 2) = false := by simpa using h2
        go_wp2_with fail
        exact bodyPost_ret (v := .tuple #[.int .i64 0, .int .i64 41]) (by simp [results, Tryz.results39, go_sem]) rfl ⟨by simp [labelQ, h0, h2], B2.out⟩
set_option maxRecDepth 100000 in
set_option maxHeartbeats 2000000 in
theorem seg_label (m : Sp.Spc) (hm : Sp.WF m) (hl : m.L.length ≤ 1000000) (x : Sg.Seg) (g P : Nat) (r : Option Nat) (w : World) (h : SpcR w g r m) (hP : Blk w P 40 #[.pointer (some ⟨g, 0, none⟩)]) :
    Calls Tryz.prog 35 #[.agg #[.bool x.link, .int .i64 x.n], .pointer (some ⟨P, 0, none⟩)] w (RetII (Sg.labelR m x) w) := by
  have hps := owner_pos hm x.n
  have HX := Lib.hid fun W h => spc_Index' g x.n m hm r W h
  have HW := Lib.hid fun W h => seg_owned g x.n m hl r W h
  have HB := Lib.hid (belowA w (.cells #[.bool x.link, .int .i64 x.n] 65))
  have HS := Lib.hid (h.below HB.out)
  have HK := Lib.hid (Blk.new w 65 #[.bool x.link, .int .i64 x.n])
  have cP := (hP.alloc (.cells #[.bool x.link, .int .i64 x.n] 65)).cell 0
  have hPl := hP.lt
  simp only [List.getElem?_toArray, List.getElem?_cons_zero] at cP
  rw [labelQ_eq]
  generalize Sp.indexR m x.n = qi at *
  generalize Sp.ownerR m x.n = qo at *
  obtain ⟨lk, n⟩ := x
  obtain ⟨i1, i2⟩ := qi
  obtain ⟨o1, o2⟩ := qo
  simp only [RetIB, RetII] at HX HW ⊢
  simp only at hps cP
  clear hm h hP
  cases lk with
  | false =>
    go_enter Tryz.func35, Tryz.ntmps35
    go_wp2_with fail
    refine (HX.out _ HS.out).mono ?_
    rintro e w2 ⟨rfl, b2⟩
    have B2 := Lib.hid (HB.out.trans (b2.mono HB.out.size))
    clear b2
    cases i2 with
    | false =>
      go_wp2_with fail
      exact bodyPost_ret (v := .tuple #[.int .i64 0, .int .i64 52]) (by simp [results, Tryz.results35, go_sem]) rfl ⟨rfl, B2.out⟩
    | true =>
      go_wp2_with fail
      exact bodyPost_ret (v := .tuple #[.int .i64 i1, .int .i64 0]) (by simp [results, Tryz.results35, go_sem]) rfl ⟨rfl, B2.out⟩
  | true =>
    go_enter Tryz.func35, Tryz.ntmps35
    go_wp2_with fail
    refine (HW.out _ HS.out).mono ?_
    rintro e w2 ⟨rfl, b2⟩
    have B2 := Lib.hid (HB.out.trans (b2.mono HB.out.size))
    have K2 := Lib.hid (HK.out.below b2 HK.out.lt)
    have c1 := K2.out.cell 1
    simp only [List.getElem?_toArray, List.getElem?_cons_succ, List.getElem?_cons_zero] at c1
    clear b2
    by_cases h0 : 0 < o1 ∧ o2 = 2
    · have hd : (decide (0 < o1) && decide (o2 = 2)) = true := by simp [h0]
      rw [hd]
      go_wp2_with fail
      exact bodyPost_ret (v := .tuple #[.int .i64 n, .int .i64 0]) (by simp [results, Tryz.results35, go_sem]) rfl ⟨by obtain ⟨h1, rfl⟩ := h0; have : ¬ o1 = 0 := (by omega); simp [labelQ, this], B2.out⟩
    · have hd : (decide (0 < o1) && decide (o2 = 2)) = false := by
        by_cases h1 : 0 < o1
        · have : ¬ o2 = 2 := fun h2 => h0 ⟨h1, h2⟩
          simp [this]
        · simp [h1]
      rw [hd]
      go_wp2_with fail
      exact bodyPost_ret (v := .tuple #[.int .i64 0, .int .i64 41]) (by simp [results, Tryz.results35, go_sem]) rfl ⟨by
        have : o1 = 0 ∨ o2 ≠ 2 := by
          by_cases h1 : o1 = 0
          · exact .inl h1
          · exact .inr fun h2 => h0 ⟨by omega, h2⟩
        simp only [labelQ, Bool.true_eq_false, if_false, if_pos this], B2.out⟩
end Go.Proofs.YtilahcnpjbnjiaaGreatDoor
