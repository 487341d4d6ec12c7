/- A space in memory between two steps of a method. -/
import Derived.Test.YtbeombmblifohaaSpcFns2
namespace Go.Proofs.Ytbeombmblifohaa
set_option linter.unusedVariables false
set_option linter.unusedSimpArgs false
open Go.RowKit Go.Shelf Go.Proofs

def upd {α : Type} (F : Int → α) (k : Int) (x : α) : Int → α := fun j => if j = k then x else F j
theorem upd_same {α : Type} (F : Int → α) (k : Int) (x : α) : upd F k x k = x := by unfold upd; rw [if_pos rfl]
theorem upd_other {α : Type} (F : Int → α) {k j : Int} (x : α) (h : j ≠ k) : upd F k x j = F j := by unfold upd; rw [if_neg h]
def spcG (V : Int → Value) (a1 a2 : Sp.S) (vb : Value) : Array Value := #[V 0, V 1, V 2, .int .i64 0, .int .i64 0, .int .i64 a1.1, .int .i64 a1.2, .int .i64 a2.1, .int .i64 a2.2, vb]
structure SpcG (W : World) (g : Nat) (r : Option Nat) (F : Int → List Sp.S) (V : Int → Value) (a1 a2 : Sp.S) (L : List Sp.Bk) (vb : Value) : Prop where
  blk : Blk W g 67 (spcG V a1 a2 vb)
  left : ∀ k, 0 ≤ k → k ≤ 2 → SlF W g r (V k) (F k)
  own : W.ownsRow (g + 1) 47 4 vb L.length (flat encBk L)
  row : vb.ownBlock = r
theorem SpcG.of {W : World} {g : Nat} {r : Option Nat} {m : Sp.Spc} (h : SpcR W g r m) : ∃ V vb, SpcG W g r (Sp.leftR m) V m.a1 m.a2 m.L vb := by
  obtain ⟨v0, v1, v2, vb, h⟩ := h
  exact ⟨vAt v0 v1 v2, vb, h.1, fun k h0 h2 => h.left h0 h2, h.2.2.2.2.1, h.2.2.2.2.2⟩
theorem SpcG.spcV {W : World} {g : Nat} {r : Option Nat} {F : Int → List Sp.S} {V : Int → Value} {m : Sp.Spc} {vb : Value} (h : SpcG W g r F V m.a1 m.a2 m.L vb) (hF : ∀ k, 0 ≤ k → k ≤ 2 → F k = Sp.leftR m k) : SpcV W g r m (V 0) (V 1) (V 2) vb := by
  refine ⟨h.blk, ?_, ?_, ?_, h.own, h.row⟩
  · rw [← hF 0 (by omega) (by omega)]; exact h.left 0 (by omega) (by omega)
  · rw [← hF 1 (by omega) (by omega)]; exact h.left 1 (by omega) (by omega)
  · rw [← hF 2 (by omega) (by omega)]; exact h.left 2 (by omega) (by omega)
theorem SpcG.spcR {W : World} {g : Nat} {r : Option Nat} {F : Int → List Sp.S} {V : Int → Value} {m : Sp.Spc} {vb : Value} (h : SpcG W g r F V m.a1 m.a2 m.L vb) (hF : ∀ k, 0 ≤ k → k ≤ 2 → F k = Sp.leftR m k) : SpcR W g r m := ⟨_, _, _, _, h.spcV hF⟩
section
variable {W : World} {g : Nat} {r : Option Nat} {F : Int → List Sp.S} {V : Int → Value} {a1 a2 : Sp.S} {L : List Sp.Bk} {vb : Value}
theorem SpcG.lt (h : SpcG W g r F V a1 a2 L vb) : g < W.heap.size := h.blk.lt
theorem SpcG.rowlt (h : SpcG W g r F V a1 a2 L vb) : ∀ b, r = some b → g + 1 ≤ b ∧ b < W.heap.size := fun b hb => h.own.lt b (h.row.trans hb)
theorem SpcG.below (h : SpcG W g r F V a1 a2 L vb) {W' : World} (hb : Below W.heap.size W W') : SpcG W' g r F V a1 a2 L vb :=
  ⟨h.blk.below hb h.blk.lt, fun k h0 h2 => (h.left k h0 h2).below hb, owns_below h.own hb (Nat.le_refl _), h.row⟩
theorem SpcG.cell (h : SpcG W g r F V a1 a2 L vb) {k : Int} (h0 : 0 ≤ k) (h2 : k ≤ 2) : W.cell? ⟨g, k.toNat, none⟩ = some (V k) := by
  have : k = 0 ∨ k = 1 ∨ k = 2 := by omega
  rcases this with rfl | rfl | rfl
  · exact h.blk.cell 0
  · exact h.blk.cell 1
  · exact h.blk.cell 2
theorem grown_set (W : World) (g i : Nat) (v : Value) : W.grownBy (W.setCell ⟨g, i, none⟩ v) (some g) :=
  have h := (Below.refl 0 W).setCell (Nat.zero_le _) v (p := ⟨g, i, none⟩)
  ⟨h.os, h.tape, h.output, h.size, fun k _ hg => Below.heap_setCell W _ v k (fun e => hg (by rw [e]))⟩
theorem SlF.set {W : World} {g : Nat} {r : Option Nat} {v : Value} {l : List Sp.S} (h : SlF W g r v l) (i : Nat) (u : Value) : SlF (W.setCell ⟨g, i, none⟩ u) g r v l := ⟨(Frm.setCell g r W i u).slr h.1 h.2, h.2⟩
theorem SpcG.own_set (h : SpcG W g r F V a1 a2 L vb) (i : Nat) (u : Value) : (W.setCell ⟨g, i, none⟩ u).ownsRow (g + 1) 47 4 vb L.length (flat encBk L) :=
  h.own.kept (grown_set W g i u) (Or.inr fun e => by have := h.rowlt g (by rw [← h.row, e]); omega)
/-- one slice of an area is another one -/
theorem SpcG.put (h : SpcG W g r F V a1 a2 L vb) {k : Int} (h0 : 0 ≤ k) (h2 : k ≤ 2) {l : List Sp.S} {W0 : World} {v : Value} (ho : W.ownsRow W0.heap.size 27 2 v l.length (flat encSp l)) (hg : g < W0.heap.size) (hr : ∀ b, r = some b → b < W0.heap.size) :
    SpcG (W.setCell ⟨g, k.toNat, none⟩ v) g r (upd F k l) (upd V k v) a1 a2 L vb := by
  refine ⟨?_, fun j j0 j2 => ?_, h.own_set _ _, h.row⟩
  · have hb := h.blk.set k.toNat v
    have e : (spcG V a1 a2 vb).setIfInBounds k.toNat v = spcG (upd V k v) a1 a2 vb := by
      have : k = 0 ∨ k = 1 ∨ k = 2 := by omega
      rcases this with rfl | rfl | rfl <;> rfl
    rw [e] at hb
    exact hb
  · by_cases hjk : j = k
    · subst hjk
      rw [upd_same, upd_same]
      refine (SlF.set ⟨SlR.of_owns encSp_len ho, fun b hb => ?_⟩ _ _)
      have := (ho.lt b hb).1
      exact ⟨by omega, fun e => by have := hr b e.symm; omega⟩
    · rw [upd_other F l hjk, upd_other V v hjk]
      exact (h.left j j0 j2).set _ _
/-- an area is laid -/
theorem SpcG.lay (h : SpcG W g r F V a1 a2 L vb) {k : Int} (hk : k = 1 ∨ k = 2) (x y : Int) :
    SpcG ((W.setCell ⟨g, 3 + k.toNat * 2, none⟩ (.int .i64 x)).setCell ⟨g, 3 + k.toNat * 2 + 1, none⟩ (.int .i64 y)) g r F V (if k = 1 then (x, y) else a1) (if k = 1 then a2 else (x, y)) L vb := by
  have hs := h.own_set (3 + k.toNat * 2) (.int .i64 x)
  refine ⟨?_, fun j j0 j2 => ((h.left j j0 j2).set _ _).set _ _, ?_, h.row⟩
  · have hb := (h.blk.set (3 + k.toNat * 2) (.int .i64 x)).set (3 + k.toNat * 2 + 1) (.int .i64 y)
    rcases hk with rfl | rfl
    · exact hb
    · exact hb
  · exact hs.kept (grown_set _ g _ _) (Or.inr fun e => by have := h.rowlt g (by rw [← h.row, e]); omega)
/-- the blocks lie in another row -/
theorem SpcG.blocks (h : SpcG W g r F V a1 a2 L vb) {W1 : World} {L' : List Sp.Bk} {vb' : Value} (ho : W1.ownsRow (g + 1) 47 4 vb' L'.length (flat encBk L')) (hgr : W.grownBy W1 vb.ownBlock) (hn : vb'.ownBlock = vb.ownBlock ∨ vb'.ownBlock = some W.heap.size) :
    SpcG (W1.setCell ⟨g, 9, none⟩ vb') g vb'.ownBlock F V a1 a2 L' vb' := by
  have hgr' : vb.ownBlock = r := h.row
  have hgb : some g ≠ vb.ownBlock := fun e => by have := h.rowlt g (by rw [← h.row, ← e]); omega
  have hb1 : Blk W1 g 67 (spcG V a1 a2 vb) := (hgr.block g h.blk.lt hgb).trans h.blk
  refine ⟨hb1.set 9 vb', fun j j0 j2 => ?_, ?_, rfl⟩
  · obtain ⟨s1, s2⟩ := h.left j j0 j2
    have hF : Frm g r W W1 := ⟨hgr.os, hgr.tape, hgr.output, hgr.size, fun k hk _ hr => hgr.block k hk (by rw [hgr']; exact hr)⟩
    have s3 := hF.slr s1 s2
    have hd : ∀ b, (V j).ownBlock = some b → b ≠ g ∧ some b ≠ vb'.ownBlock := fun b hb => ⟨(s2 b hb).1, fun e => by
      rcases hn with hn | hn
      · rw [hn, hgr'] at e; exact (s2 b hb).2 e
      · rw [hn] at e
        have e2 : b = W.heap.size := Option.some.inj e
        obtain ⟨p, cap, hv, _, _, hR⟩ := s1
        rw [hv] at hb
        cases p with
        | none => cases hb
        | some a =>
          have h3 : a.block = b := Option.some.inj hb
          have := hR.lt
          omega⟩
    exact ⟨(Frm.setCell g vb'.ownBlock W1 9 vb').slr s3 hd, hd⟩
  · exact ho.kept (grown_set W1 g 9 vb') (Or.inr fun e => by have := (ho.lt g e).1; omega)
end
end Go.Proofs.Ytbeombmblifohaa
