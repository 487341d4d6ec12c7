/- Spaces in memory: what a space's block holds, what a call on a space may turn. -/
import Derived.Test.YtilahcnpjbnjiaaGreatDoorMBase
import Derived.Test.YtilahcnpjbnjiaaGreatDoorSpansRef3
import Derived.Test.YtilahcnpjbnjiaaGreatDoorMSpanP
namespace Go.Proofs.YtilahcnpjbnjiaaGreatDoor
set_option linter.unusedVariables false
set_option linter.unusedSimpArgs false
open Go.RowKit Go.Shelf Go.Proofs

namespace Sp
theorem total_len : ∀ {m : List S}, Nrm m → (m.length : Int) ≤ total m
  | [], _ => by simp [total]
  | s :: r, h => by
    have ih := total_len h.2.2
    have hs := mayB_iff.1 h.1
    simp only [total, List.length_cons, size]
    omega
theorem cnt_bd (p : Int → Bool) : ∀ N : Nat, cnt p N ≤ N
  | 0 => by simp [cnt]
  | n + 1 => by
    have := cnt_bd p n
    simp only [cnt]
    split <;> omega
theorem nrm_len {m : List S} (h : Nrm m) : m.length ≤ 1048576 := by
  have h1 := total_len h
  have h2 := total_cnt (N := 1048576) (by decide) h
  have h3 := cnt_bd (inB m) 1048576
  omega
theorem left_len {m : Spc} (h : WF m) (k : Int) : (leftR m k).length ≤ 1048576 := nrm_len (left_ok h k).1
end Sp

/-- a block's cells -/
def encBk (b : Sp.Bk) : List Value := [.int .i64 b.sp.1, .int .i64 b.sp.2, .int .i64 b.owner, .int .i64 b.area]
theorem encBk_len (b : Sp.Bk) : (encBk b).length = 4 := rfl
theorem encBk_one (b : Sp.Bk) : ∀ u ∈ encBk b, u.oneCell' = true := by intro u hu; simp [encBk] at hu; rcases hu with rfl | rfl | rfl | rfl <;> rfl
/-- a space's cells -/
def spcA (v0 v1 v2 : Value) (m : Sp.Spc) (vb : Value) : Array Value := #[v0, v1, v2, .int .i64 0, .int .i64 0, .int .i64 m.a1.1, .int .i64 m.a1.2, .int .i64 m.a2.1, .int .i64 m.a2.2, vb]

/-- all blocks but two are as they were -/
structure Frm (g : Nat) (r : Option Nat) (W W' : World) : Prop where
  os : W'.os = W.os
  tape : W'.tape = W.tape
  output : W'.output = W.output
  size : W.heap.size ≤ W'.heap.size
  block : ∀ k, k < W.heap.size → k ≠ g → some k ≠ r → W'.heap[k]? = W.heap[k]?
/-- a row is as it was, or is a new one -/
def NewRow (W : World) (r r' : Option Nat) : Prop := r' = r ∨ ∃ b, r' = some b ∧ W.heap.size ≤ b
theorem NewRow.refl (W : World) (r : Option Nat) : NewRow W r r := Or.inl rfl
theorem NewRow.trans {W W' : World} {r r1 r2 : Option Nat} (h : NewRow W r r1) (k : NewRow W' r1 r2) (hs : W.heap.size ≤ W'.heap.size) : NewRow W r r2 := by
  rcases k with rfl | ⟨b, rfl, hb⟩
  · exact h
  · exact Or.inr ⟨b, rfl, Nat.le_trans hs hb⟩
theorem Frm.refl (g : Nat) (r : Option Nat) (W : World) : Frm g r W W := ⟨rfl, rfl, rfl, Nat.le_refl _, fun _ _ _ _ => rfl⟩
theorem Frm.of_below {g : Nat} {r : Option Nat} {W W' : World} (h : Below W.heap.size W W') : Frm g r W W' := ⟨h.os, h.tape, h.output, h.size, fun k hk _ _ => h.block k hk⟩
theorem Frm.trans {g : Nat} {r r1 : Option Nat} {W W1 W2 : World} (h : Frm g r W W1) (k : Frm g r1 W1 W2) (hr : NewRow W r r1) : Frm g r W W2 := by
  refine ⟨k.os.trans h.os, k.tape.trans h.tape, k.output.trans h.output, Nat.le_trans h.size k.size, fun i hi hg hr' => ?_⟩
  rw [k.block i (Nat.lt_of_lt_of_le hi h.size) hg ?_, h.block i hi hg hr']
  rcases hr with rfl | ⟨b, rfl, hb⟩
  · exact hr'
  · intro e
    cases e
    omega
theorem Frm.setCell (g : Nat) (r : Option Nat) (W : World) (i : Nat) (v : Value) : Frm g r W (W.setCell ⟨g, i, none⟩ v) :=
  have h := (Below.refl 0 W).setCell (Nat.zero_le _) v (p := ⟨g, i, none⟩)
  ⟨h.os, h.tape, h.output, h.size, fun k _ hg _ => Below.heap_setCell W _ v k hg⟩
theorem Frm.setRow (g : Nat) (r : Option Nat) (W : World) (cs : Array Value) : Frm g r W (W.setRow g cs) :=
  have h := below_setRow (Below.refl 0 W) (Nat.zero_le g) cs
  ⟨h.os, h.tape, h.output, h.size, fun k _ hg _ => setRow_other W g k cs hg⟩
theorem Frm.below {g : Nat} {r : Option Nat} {W W' W0 : World} {B : Nat} (h : Frm g r W W') (hb : Below B W0 W) (hB : B ≤ W.heap.size) (hg : B ≤ g) (hr : ∀ b, r = some b → B ≤ b) : Below B W0 W' :=
  hb.trans ⟨h.os, h.tape, h.output, h.size, fun k hk => h.block k (Nat.lt_of_lt_of_le hk hB) (by omega) (fun e => by have := hr k e.symm; omega)⟩
theorem Frm.blk {g : Nat} {r : Option Nat} {W W' : World} (h : Frm g r W W') {k : Nat} {t : TypeId} {cs : Array Value} (hb : Blk W k t cs) (hg : k ≠ g) (hr : some k ≠ r) : Blk W' k t cs := (h.block k hb.lt hg hr).trans hb
theorem Frm.slr {α : Type} {g : Nat} {r : Option Nat} {W W' : World} (h : Frm g r W W') {n : Nat} {enc : α → List Value} {v : Value} {xs : List α} (hs : SlR W n enc v xs) (hd : ∀ b, v.ownBlock = some b → b ≠ g ∧ some b ≠ r) : SlR W' n enc v xs := by
  obtain ⟨p, cap, rfl, h2, h3, h4, h5⟩ := hs
  refine ⟨p, cap, rfl, h2, h3, h4, fun a ha => ?_⟩
  subst ha
  obtain ⟨h6, h7, h8⟩ := h5 a rfl
  obtain ⟨d1, d2⟩ := hd a.block rfl
  refine ⟨h6, Nat.lt_of_lt_of_le h7 h.size, fun i x hx j u hu => ?_⟩
  rw [← h8 i x hx j u hu]
  exact World.cell?_of_block (a := ⟨a.block, a.off + i * n + j, none⟩) (h.block a.block h7 d1 d2)

/-- a slice that reads so, and lies neither in the space nor in its row -/
def SlF (W : World) (g : Nat) (r : Option Nat) (v : Value) (l : List Sp.S) : Prop := SlR W 2 encSp v l ∧ ∀ b, v.ownBlock = some b → b ≠ g ∧ some b ≠ r
/-- the space at block g, its blocks in row r -/
def SpcV (W : World) (g : Nat) (r : Option Nat) (m : Sp.Spc) (v0 v1 v2 vb : Value) : Prop :=
  Blk W g 96 (spcA v0 v1 v2 m vb) ∧ SlF W g r v0 (Sp.leftR m 0) ∧ SlF W g r v1 (Sp.leftR m 1) ∧ SlF W g r v2 (Sp.leftR m 2) ∧
    W.ownsRow (g + 1) 99 4 vb m.L.length (flat encBk m.L) ∧ vb.ownBlock = r
def SpcR (W : World) (g : Nat) (r : Option Nat) (m : Sp.Spc) : Prop := ∃ v0 v1 v2 vb, SpcV W g r m v0 v1 v2 vb
theorem SpcR.lt {W : World} {g : Nat} {r : Option Nat} {m : Sp.Spc} (h : SpcR W g r m) : g < W.heap.size := by obtain ⟨_, _, _, _, h, _⟩ := h; exact h.lt
theorem SpcV.row {W : World} {g : Nat} {r : Option Nat} {m : Sp.Spc} {v0 v1 v2 vb : Value} (h : SpcV W g r m v0 v1 v2 vb) : ∀ b, r = some b → g + 1 ≤ b ∧ b < W.heap.size := by
  intro b hb
  obtain ⟨_, _, _, _, ho, hv⟩ := h
  exact ho.lt b (hv.trans hb)
theorem SpcR.row {W : World} {g : Nat} {r : Option Nat} {m : Sp.Spc} (h : SpcR W g r m) : ∀ b, r = some b → g + 1 ≤ b ∧ b < W.heap.size := by obtain ⟨_, _, _, _, h⟩ := h; exact h.row
theorem SlF.below {W W' : World} {g : Nat} {r : Option Nat} {v : Value} {l : List Sp.S} (h : SlF W g r v l) (hb : Below W.heap.size W W') : SlF W' g r v l := ⟨h.1.below hb (Nat.le_refl _), h.2⟩
theorem SpcV.below {W W' : World} {g : Nat} {r : Option Nat} {m : Sp.Spc} {v0 v1 v2 vb : Value} (h : SpcV W g r m v0 v1 v2 vb) (hb : Below W.heap.size W W') : SpcV W' g r m v0 v1 v2 vb := by
  obtain ⟨h1, h2, h3, h4, h5, h6⟩ := h
  exact ⟨h1.below hb h1.lt, h2.below hb, h3.below hb, h4.below hb, owns_below h5 hb (Nat.le_refl _), h6⟩
theorem SpcR.below {W W' : World} {g : Nat} {r : Option Nat} {m : Sp.Spc} (h : SpcR W g r m) (hb : Below W.heap.size W W') : SpcR W' g r m := by
  obtain ⟨v0, v1, v2, vb, h⟩ := h
  exact ⟨v0, v1, v2, vb, h.below hb⟩
/-- the area's slice -/
def vAt (v0 v1 v2 : Value) (k : Int) : Value := if k = 0 then v0 else if k = 1 then v1 else v2
theorem SpcV.left {W : World} {g : Nat} {r : Option Nat} {m : Sp.Spc} {v0 v1 v2 vb : Value} (h : SpcV W g r m v0 v1 v2 vb) {k : Int} (h0 : 0 ≤ k) (h2 : k ≤ 2) : SlF W g r (vAt v0 v1 v2 k) (Sp.leftR m k) := by
  have : k = 0 ∨ k = 1 ∨ k = 2 := by omega
  rcases this with rfl | rfl | rfl
  · exact h.2.1
  · exact h.2.2.1
  · exact h.2.2.2.1
end Go.Proofs.YtilahcnpjbnjiaaGreatDoor
