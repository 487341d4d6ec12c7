import Derived.Test.YtbeombmblifohaaSpcLaw8
import Derived.Test.YtbeombmblifohaaSpcArg
/- Two spaces beside one another. -/
namespace Go.Proofs.Ytbeombmblifohaa
set_option linter.unusedVariables false
set_option linter.unusedSimpArgs false
open Go.RowKit Go.Shelf Go.Proofs

/-- a space's own things lie apart from another space -/
structure Sep (W : World) (g : Nat) (r : Option Nat) (v : Value) (g2 : Nat) (r2 : Option Nat) : Prop where
  s1 : g ≠ g2
  s2 : some g ≠ r2
  s3 : ∀ b, r = some b → b ≠ g2 ∧ some b ≠ r2
  s4 : ∀ b, v.ownBlock = some b → b ≠ g2 ∧ some b ≠ r2
  s5 : ∀ k : Nat, k ≤ 2 → ∀ a n c, W.cell? ⟨g, k, none⟩ = some (.slice (some a) n c) → a.block ≠ g2 ∧ some a.block ≠ r2
section
variable {w W W' : World} {g g2 : Nat} {r r' r2 r2' : Option Nat} {m q mb : Sp.Spc} {v v' vb : Value} {z : Nat} {L : List Sp.Bk}
theorem Sep.cells (h : Sep W g r v g2 r2) (hc : ∀ k : Nat, W'.cell? ⟨g, k, none⟩ = W.cell? ⟨g, k, none⟩) : Sep W' g r v g2 r2 := ⟨h.s1, h.s2, h.s3, h.s4, fun k hk a n c e => h.s5 k hk a n c (by rw [← hc k]; exact e)⟩
theorem Sep.own (h : Sep W g r v g2 r2) (nr : NewRow W r r') (old : Old g W W') (nv : NewV W v v') (hg2 : g2 < W.heap.size) (hr2 : ∀ b, r2 = some b → b < W.heap.size) : Sep W' g r' v' g2 r2 := by
  have hn : ∀ b, W.heap.size ≤ b → b ≠ g2 ∧ some b ≠ r2 := fun b hb => ⟨by omega, fun e => by have := hr2 b e.symm; omega⟩
  refine ⟨h.s1, h.s2, fun b hb => ?_, fun b hb => ?_, fun k hk a n c hc => ?_⟩
  · rcases nr with e | ⟨x, e, hx⟩
    · exact h.s3 b (e.symm.trans hb)
    · rw [e] at hb; cases hb; exact hn _ hx
  · rcases nv b hb with e | e
    · exact h.s4 b e
    · exact hn b e
  · rcases old k hk a n c hc with e | ⟨j, a', n', c', hj, hc', e⟩
    · exact hn _ e
    · rw [← e]; exact h.s5 j hj a' n' c' hc'
theorem Sep.other (h : Sep W g r v g2 r2) (nr : NewRow W r2 r2') (fr : Frm g2 r2 W W') (hS : SpcR W g r m) (hv : SlR W 4 encBk v L) : Sep W' g r v g2 r2' := by
  have hn : ∀ b, b < W.heap.size → some b ≠ r2 → some b ≠ r2' := fun b hb hne e => by
    rcases nr with e2 | ⟨x, e2, hx⟩
    · exact hne (e.trans e2)
    · rw [e2] at e; cases e; omega
  refine ⟨h.s1, hn g hS.lt h.s2, fun b hb => ⟨(h.s3 b hb).1, hn b (hS.row b hb).2 (h.s3 b hb).2⟩, fun b hb => ⟨(h.s4 b hb).1, hn b (hv.own_lt b hb) (h.s4 b hb).2⟩, fun k hk a n c hc => ?_⟩
  have hc0 : W.cell? ⟨g, k, none⟩ = some (.slice (some a) n c) := by
    rw [← hc]
    exact (World.cell?_of_block (a := ⟨g, k, none⟩) (fr.block g hS.lt h.s1 h.s2)).symm
  have h5 := h.s5 k hk a n c hc0
  exact ⟨h5.1, hn _ (hS.slices k hk a n c hc0).1 h5.2⟩
theorem owns_frm {base : Nat} {e : TypeId} {size n : Nat} {xs : List Value} (h : W.ownsRow base e size v n xs) (fr : Frm g2 r2 W W') (hd : ∀ b, v.ownBlock = some b → b ≠ g2 ∧ some b ≠ r2) : W'.ownsRow base e size v n xs := by
  refine ⟨h.1, ?_⟩
  rcases h.2 with h0 | ⟨x, cap, cur, hv, hb, hx, rest⟩
  · exact .inl h0
  · subst hv
    obtain ⟨d1, d2⟩ := hd x rfl
    exact .inr ⟨x, cap, cur, rfl, hb, (fr.block x (Array.getElem?_eq_some_iff.1 hx).1 d1 d2).trans hx, rest⟩
theorem SpcR.frm (h : SpcR W g r m) (hs : Sep W g r v g2 r2) (fr : Frm g2 r2 W W') : SpcR W' g r m := by
  obtain ⟨v0, v1, v2, vb, k1, k2, k3, k4, k5, k6⟩ := h
  have key : ∀ (x : Value) (l : List Sp.S) (k : Nat), k ≤ 2 → W.cell? ⟨g, k, none⟩ = some x → SlF W g r x l → SlF W' g r x l := fun x l k hk hc hx => by
    refine ⟨fr.slr hx.1 fun b hb => ?_, hx.2⟩
    obtain ⟨p, cap, hv, _⟩ := hx.1
    rw [hv] at hb hc
    cases p with
    | none => cases hb
    | some a =>
      have hab : a.block = b := Option.some.inj hb
      subst hab
      exact hs.s5 k hk a _ _ hc
  exact ⟨v0, v1, v2, vb, fr.blk k1 hs.s1 hs.s2, key v0 _ 0 (by omega) (k1.cell 0) k2, key v1 _ 1 (by omega) (k1.cell 1) k3, key v2 _ 2 (by omega) (k1.cell 2) k4, owns_frm k5 fr (fun b hb => hs.s3 b (k6.symm.trans hb)), k6⟩
theorem RW.other (h : RW w W g r m v z mb vb) (hs : Sep W g r v g2 r2) (fr : Frm g2 r2 W W') (hz : z ≠ g2) (hz2 : some z ≠ r2) (hbel : Below w.heap.size w W') : RW w W' g r m v z mb vb := by
  refine ⟨⟨h.A.S.frm hs fr, hbel, h.A.hg, h.A.hr⟩, ⟨fr.slr h.d.1 hs.s4, h.d.2⟩, fr.blk h.b hz hz2, h.hz, h.n1, h.n2, h.n3, fun k hk a n c hc => h.n4 k hk a n c ?_⟩
  rw [← hc]
  exact (World.cell?_of_block (a := ⟨g, k, none⟩) (fr.block g h.A.S.lt hs.s1 hs.s2)).symm
end
/-- two spaces, and the document's two variables -/
structure TW (w W : World) (g1 : Nat) (r1 : Option Nat) (m1 : Sp.Spc) (v1 : Value) (g2 : Nat) (r2 : Option Nat) (m2 : Sp.Spc) (v2 : Value) (z1 : Nat) (b1 : Sp.Spc) (c1 : Value) (z2 : Nat) (b2 : Sp.Spc) (c2 : Value) : Prop where
  a : RW w W g1 r1 m1 v1 z1 b1 c1
  b : RW w W g1 r1 m1 v1 z2 b2 c2
  c : RW w W g2 r2 m2 v2 z1 b1 c1
  d : RW w W g2 r2 m2 v2 z2 b2 c2
  s12 : Sep W g1 r1 v1 g2 r2
  s21 : Sep W g2 r2 v2 g1 r1
  zz : z1 ≠ z2
section
variable {w W W' : World} {g1 g2 z1 z2 : Nat} {r1 r2 r1' : Option Nat} {m1 m2 b1 b2 q : Sp.Spc} {v1 v2 c1 c2 v' : Value}
theorem TW.swap (h : TW w W g1 r1 m1 v1 g2 r2 m2 v2 z1 b1 c1 z2 b2 c2) : TW w W g2 r2 m2 v2 g1 r1 m1 v1 z2 b2 c2 z1 b1 c1 := ⟨h.d, h.c, h.b, h.a, h.s21, h.s12, h.zz.symm⟩
theorem TW.next (h : TW w W g1 r1 m1 v1 g2 r2 m2 v2 z1 b1 c1 z2 b2 c2) (hb : Below W.heap.size W W') : TW w W' g1 r1 m1 v1 g2 r2 m2 v2 z1 b1 c1 z2 b2 c2 :=
  ⟨h.a.next hb, h.b.next hb, h.c.next hb, h.d.next hb, h.s12.cells fun k => hb.cell (p := ⟨g1, k, none⟩) h.a.A.S.lt, h.s21.cells fun k => hb.cell (p := ⟨g2, k, none⟩) h.c.A.S.lt, h.zz⟩
theorem TW.drew (h : TW w W g1 r1 m1 v1 g2 r2 m2 v2 z1 b1 c1 z2 b2 c2) : TW w W.drew g1 r1 m1 v1 g2 r2 m2 v2 z1 b1 c1 z2 b2 c2 := h.next (Below.refl _ _).drew
theorem TW.step (h : TW w W g1 r1 m1 v1 g2 r2 m2 v2 z1 b1 c1 z2 b2 c2) (hB : Bth W W' g1 r1 r1' q v1 v') : TW w W' g1 r1' q v' g2 r2 m2 v2 z1 b1 c1 z2 b2 c2 := by
  have ha := h.a.step hB
  exact ⟨ha, h.b.step hB, h.c.other h.s21 hB.fr h.a.n1 h.a.n2 ha.A.bel, h.d.other h.s21 hB.fr h.b.n1 h.b.n2 ha.A.bel,
    h.s12.own hB.nr hB.old hB.nv h.c.A.S.lt (fun b hb => (h.c.A.S.row b hb).2), h.s21.other hB.nr hB.fr h.c.A.S h.c.d.1, h.zz⟩
theorem TW.row (h : TW w W g1 r1 m1 v1 g2 r2 m2 v2 z1 b1 c1 z2 b2 c2) (q : Sp.Spc) (v : Value) : TW w (W.setRow z1 (sA q v)) g1 r1 m1 v1 g2 r2 m2 v2 z1 q v z2 b2 c2 :=
  ⟨h.a.row q v, (h.b.two h.a h.zz.symm q v).1, h.c.row q v, (h.d.two h.c h.zz.symm q v).1,
    h.s12.cells fun k => World.cell?_of_block (a := ⟨g1, k, none⟩) (setRow_other W z1 g1 _ (Ne.symm h.a.n1)), h.s21.cells fun k => World.cell?_of_block (a := ⟨g2, k, none⟩) (setRow_other W z1 g2 _ (Ne.symm h.c.n1)), h.zz⟩
end
end Go.Proofs.Ytbeombmblifohaa

/- SpaceLowest. -/
namespace Go.Proofs.Ytbeombmblifohaa
set_option linter.unusedVariables false
set_option linter.unusedSimpArgs false
open Go.RowKit Go.Shelf Go.Proofs

set_option maxRecDepth 100000 in
set_option maxHeartbeats 4000000 in
theorem law_same_no (g : Nat) (r : Option Nat) (ms md : Sp.Spc) (hl : ms.L.length ≤ 1000) (hne : ms.L.length = md.L.length + 1) (vL : Value) (w : World) (h : SpcR w g r ms) (hv : SlR w 4 encBk vL md.L) :
    Calls Try.prog 14 #[.pointer (some ⟨g, 0, none⟩), .agg (sA md vL)] w fun e w' => e = .returned (.bool false) ∧ Below w.heap.size w w' := by
  have H0 : Hid (VU w (w.alloc (.cells (sA md vL) 31)) g r ms md vL) := Lib.hid ⟨h.below (belowA w _), QU.first w md vL hv⟩
  have BL := Lib.hid fun (W : World) (h : VU w W g r ms md vL) => spc_Blocks' g ms (by omega) r W h.S
  obtain ⟨p, cap, rfl, hc1, hc2, -⟩ := hv
  obtain ⟨⟨x1, y1⟩, ⟨x2, y2⟩, L⟩ := md
  simp only [sA] at H0 BL ⊢
  simp only at hne hc1
  have hneq : ((ms.L.length : Int) != (L.length : Int)) = true := by rw [bne_iff_ne]; omega
  clear h hne
  go_enter Try.func14, Try.ntmps14
  go_wp2_with fail
  refine (BL.out _ H0.out).mono ?_
  rintro e w1 ⟨v1, rfl, ho1, hb1⟩
  have H1 := Lib.hid (H0.out.next hb1)
  obtain ⟨p1, cp1, rfl, hd1, hd2, hR1⟩ := SlR.of_owns encBk_len ho1
  have c6 : w1.cell? ⟨w.heap.size, 6, none⟩ = some (.slice p L.length cap) := H1.out.U.cs.2.2.2.2.2.2
  clear hb1 ho1 hR1 H0 BL
  go_wp2_with fail
  go_ret
  exact ⟨rfl, H1.out.U.bel⟩
/-- both spaces go on; the document's stand still -/
structure TX (w W : World) (g1 : Nat) (r1 : Option Nat) (m1 : Sp.Spc) (g2 : Nat) (r2 : Option Nat) (m2 md : Sp.Spc) (v1 v2 : Value) (z1 z2 : Nat) : Prop where
  A1 : AW w W g1 r1 m1
  A2 : AW w W g2 r2 m2
  s12 : Sep W g1 r1 (.slice none 0 0) g2 r2
  s21 : Sep W g2 r2 (.slice none 0 0) g1 r1
  d1 : SlF4 W g1 r1 v1 md.L
  d1' : SlF4 W g2 r2 v1 md.L
  d2 : SlF4 W g1 r1 v2 md.L
  d2' : SlF4 W g2 r2 v2 md.L
  e1 : Blk W z1 31 (sA md v1)
  e2 : Blk W z2 31 (sA md v2)
  n1 : z1 ≠ g1 ∧ some z1 ≠ r1 ∧ z1 ≠ g2 ∧ some z1 ≠ r2
  n2 : z2 ≠ g1 ∧ some z2 ≠ r1 ∧ z2 ≠ g2 ∧ some z2 ≠ r2
section
variable {w W W' : World} {g1 g2 z1 z2 : Nat} {r1 r2 : Option Nat} {m1 m2 md q : Sp.Spc} {v1 v2 : Value}
theorem TX.of (h : TW w W g1 r1 md v1 g2 r2 md v2 z1 md v1 z2 md v2) : TX w W g1 r1 md g2 r2 md md v1 v2 z1 z2 :=
  ⟨h.a.A, h.c.A, ⟨h.s12.s1, h.s12.s2, h.s12.s3, (fun b hb => by cases hb), h.s12.s5⟩, ⟨h.s21.s1, h.s21.s2, h.s21.s3, (fun b hb => by cases hb), h.s21.s5⟩, h.a.d, ⟨h.a.d.1, h.s12.s4⟩, ⟨h.c.d.1, h.s21.s4⟩, h.c.d, h.a.b, h.d.b, ⟨h.a.n1, h.a.n2, h.c.n1, h.c.n2⟩, ⟨h.b.n1, h.b.n2, h.d.n1, h.d.n2⟩⟩
theorem TX.swap (h : TX w W g1 r1 m1 g2 r2 m2 md v1 v2 z1 z2) : TX w W g2 r2 m2 g1 r1 m1 md v2 v1 z2 z1 :=
  ⟨h.A2, h.A1, h.s21, h.s12, h.d2', h.d2, h.d1', h.d1, h.e2, h.e1, ⟨h.n2.2.2.1, h.n2.2.2.2, h.n2.1, h.n2.2.1⟩, ⟨h.n1.2.2.1, h.n1.2.2.2, h.n1.1, h.n1.2.1⟩⟩
theorem SlF4.next {W W' : World} {g : Nat} {r : Option Nat} {v : Value} {L : List Sp.Bk} (h : SlF4 W g r v L) (hb : Below W.heap.size W W') : SlF4 W' g r v L := ⟨h.1.below hb (Nat.le_refl _), h.2⟩
theorem TX.next (h : TX w W g1 r1 m1 g2 r2 m2 md v1 v2 z1 z2) (hb : Below W.heap.size W W') : TX w W' g1 r1 m1 g2 r2 m2 md v1 v2 z1 z2 :=
  ⟨h.A1.next hb, h.A2.next hb, h.s12.cells fun k => hb.cell (p := ⟨g1, k, none⟩) h.A1.S.lt, h.s21.cells fun k => hb.cell (p := ⟨g2, k, none⟩) h.A2.S.lt, h.d1.next hb, h.d1'.next hb, h.d2.next hb, h.d2'.next hb, h.e1.below hb h.e1.lt, h.e2.below hb h.e2.lt, h.n1, h.n2⟩
theorem TX.step (h : TX w W g1 r1 m1 g2 r2 m2 md v1 v2 z1 z2) (hL : Left g1 r1 q W W') : ∃ r', TX w W' g1 r' q g2 r2 m2 md v1 v2 z1 z2 ∧ NewRow W r1 r' := by
  obtain ⟨r', hA, nr⟩ := h.A1.step hL
  obtain ⟨rr, hS, nr0, fr, old⟩ := hL
  have hne : ∀ x, x < W.heap.size → some x ≠ r1 → some x ≠ r' := fun x hx hr e => by
    rcases nr with e2 | ⟨c, e2, hc⟩
    · exact hr (e.trans e2)
    · rw [e2] at e; cases e; omega
  have hd : ∀ v, SlF4 W g1 r1 v md.L → SlF4 W' g1 r' v md.L := fun v hv => ⟨fr.slr hv.1 hv.2, fun x hx => ⟨(hv.2 x hx).1, hne x (hv.1.own_lt x hx) (hv.2 x hx).2⟩⟩
  have hd' : ∀ v, SlF4 W g1 r1 v md.L → SlF4 W g2 r2 v md.L → SlF4 W' g2 r2 v md.L := fun v hv hv' => ⟨fr.slr hv.1 hv.2, hv'.2⟩
  refine ⟨r', ⟨hA, ⟨h.A2.S.frm h.s21 fr, hA.bel, h.A2.hg, h.A2.hr⟩, h.s12.own nr old (NewV.refl _ _) h.A2.S.lt (fun b hb => (h.A2.S.row b hb).2), h.s21.other (L := []) nr fr h.A2.S ⟨none, 0, rfl, by simp, by omega, fun _ => rfl, fun a ha => by cases ha⟩,
    hd v1 h.d1, hd' v1 h.d1 h.d1', hd v2 h.d2, hd' v2 h.d2 h.d2', fr.blk h.e1 h.n1.1 h.n1.2.1, fr.blk h.e2 h.n2.1 h.n2.2.1, ⟨h.n1.1, hne z1 h.e1.lt h.n1.2.1, h.n1.2.2⟩, ⟨h.n2.1, hne z2 h.e2.lt h.n2.2.1, h.n2.2.2⟩⟩, nr⟩
end
/-- and the spans that were found, and drawn -/
structure TY (w W : World) (g1 : Nat) (r1 : Option Nat) (m1 : Sp.Spc) (g2 : Nat) (r2 : Option Nat) (m2 md : Sp.Spc) (v1 v2 : Value) (z1 z2 x y : Nat) (a b : Int) : Prop where
  T : TX w W g1 r1 m1 g2 r2 m2 md v1 v2 z1 z2
  bx : Blk W x 27 #[.int .i64 a, .int .i64 b]
  bY : Blk W y 27 #[.int .i64 a, .int .i64 b]
  x1 : x ≠ g2 ∧ some x ≠ r2
  y1 : y ≠ g2 ∧ some y ≠ r2
section
variable {w W W' : World} {g1 g2 z1 z2 x y : Nat} {r1 r2 : Option Nat} {m1 m2 md q : Sp.Spc} {v1 v2 : Value} {a b : Int}
theorem TY.next (h : TY w W g1 r1 m1 g2 r2 m2 md v1 v2 z1 z2 x y a b) (hb : Below W.heap.size W W') : TY w W' g1 r1 m1 g2 r2 m2 md v1 v2 z1 z2 x y a b := ⟨h.T.next hb, h.bx.below hb h.bx.lt, h.bY.below hb h.bY.lt, h.x1, h.y1⟩
theorem TY.drew (h : TY w W g1 r1 m1 g2 r2 m2 md v1 v2 z1 z2 x y a b) : TY w W.drew g1 r1 m1 g2 r2 m2 md v1 v2 z1 z2 x y a b := h.next (Below.refl _ _).drew
theorem TY.step2 (h : TY w W g1 r1 m1 g2 r2 m2 md v1 v2 z1 z2 x y a b) (hL : Left g2 r2 q W W') : ∃ r', TY w W' g1 r1 m1 g2 r' q md v1 v2 z1 z2 x y a b := by
  obtain ⟨r', h1, nr⟩ := h.T.swap.step hL
  obtain ⟨_, _, _, fr, _⟩ := hL
  have hne : ∀ x, x < W.heap.size → some x ≠ r2 → some x ≠ r' := fun x hx hr e => by
    rcases nr with e2 | ⟨c, e2, hc⟩
    · exact hr (e.trans e2)
    · rw [e2] at e; cases e; omega
  exact ⟨r', h1.swap, fr.blk h.bx h.x1.1 h.x1.2, fr.blk h.bY h.y1.1 h.y1.2, ⟨h.x1.1, hne x h.bx.lt h.x1.2⟩, ⟨h.y1.1, hne y h.bY.lt h.y1.2⟩⟩
end
theorem TW.first {w W : World} {g1 g2 : Nat} (h1 : AW w W g1 none Sp.spc0) (h2 : AW w W g2 none Sp.spc0) (s12 : Sep W g1 none (.slice none 0 0) g2 none) (s21 : Sep W g2 none (.slice none 0 0) g1 none) :
    TW w ((W.alloc (.cells (sA Sp.spc0 (.slice none 0 0)) 31)).alloc (.cells (sA Sp.spc0 (.slice none 0 0)) 31)) g1 none Sp.spc0 (.slice none 0 0) g2 none Sp.spc0 (.slice none 0 0) W.heap.size Sp.spc0 (.slice none 0 0) (W.heap.size + 1) Sp.spc0 (.slice none 0 0) := by
  have a := RW.first h1
  have c := RW.first h2
  have b := a.fresh Sp.spc0 (.slice none 0 0)
  have d := c.fresh Sp.spc0 (.slice none 0 0)
  have hb := (belowA W (.cells (sA Sp.spc0 (.slice none 0 0)) 31)).alloc (by simp) (.cells (sA Sp.spc0 (.slice none 0 0)) 31)
  rw [World.size_alloc] at b d
  exact ⟨a.next (belowA _ _), b, c.next (belowA _ _), d, s12.cells fun k => hb.cell (p := ⟨g1, k, none⟩) h1.S.lt, s21.cells fun k => hb.cell (p := ⟨g2, k, none⟩) h2.S.lt, by omega⟩
/-- New: what it lays is new, too -/
def RetNew2 (w : World) (e : Ending) (w' : World) : Prop := ∃ g, e = .returned (.pointer (some ⟨g, 0, none⟩)) ∧ w.heap.size ≤ g ∧ SpcR w' g none Sp.spc0 ∧ Below w.heap.size w w' ∧ ∀ k : Nat, k ≤ 2 → ∀ a n c, w'.cell? ⟨g, k, none⟩ = some (.slice (some a) n c) → w.heap.size ≤ a.block
set_option maxRecDepth 100000 in
set_option maxHeartbeats 1000000 in
theorem spc_New2 (w : World) : Calls Try.prog 8 #[] w (RetNew2 w) := by
  obtain ⟨g, hg⟩ : ∃ g, g = w.heap.size := ⟨_, rfl⟩
  have hblk : Blk (w.alloc (.cells (spcG (fun _ => .slice none 0 0) (0, 0) (0, 0) (.slice none 0 0)) 67)) w.heap.size 67 (spcG (fun _ => .slice none 0 0) (0, 0) (0, 0) (.slice none 0 0)) := Blk.new _ _ _
  have hG : SpcG (w.alloc (.cells (spcG (fun _ => .slice none 0 0) (0, 0) (0, 0) (.slice none 0 0)) 67)) w.heap.size none (fun _ => []) (fun _ => .slice none 0 0) (0, 0) (0, 0) [] (.slice none 0 0) :=
    ⟨hblk, fun k _ _ => ⟨slr_nil _, fun b hb => by cases hb⟩, World.ownsRow_nil _ _ _ _, rfl⟩
  have HC := Lib.hid (free_add w.heap.size 0 (by omega) (by omega) (.slice none 0 0) [] 16 1048575 _ (hG.cell (by omega) (by omega)) (hblk.frozen' 0) (slr_nil _) (by simp))
  have HG := Lib.hid hG
  have HB := Lib.hid (belowA w (.cells (spcG (fun _ => .slice none 0 0) (0, 0) (0, 0) (.slice none 0 0)) 67))
  clear hG hblk
  simp only [spcG] at HC HG HB
  go_enter Try.func8, Try.ntmps8
  go_wp2_with fail
  refine HC.out.mono ?_
  rintro e w1 ⟨rfl, v, W1, ho, hb, hw1⟩
  rw [add_whole] at ho
  have HW := Lib.hid hw1
  have HO := Lib.hid (And.intro ho hb)
  clear hw1 ho hb
  go_wp2_with fail
  go_ret
  have hlt : w.heap.size < (w.alloc (.cells (spcG (fun _ => .slice none 0 0) (0, 0) (0, 0) (.slice none 0 0)) 67)).heap.size := by simp
  have hG1 := (HG.out.below HO.out.2).put (k := 0) (by omega) (by omega) HO.out.1 hlt (fun b hb => by cases hb)
  rw [← HW.out] at hG1
  refine ⟨_, rfl, Nat.le_refl _, hG1.spcR (m := Sp.spc0) fun k h0 h2 => ?_, ?_, fun k hk a n c hc => ?_⟩
  · have : k = 0 ∨ k = 1 ∨ k = 2 := by omega
    rcases this with rfl | rfl | rfl <;> rfl
  · rw [HW.out]
    exact (HB.out.trans (HO.out.2.mono (by simp))).setCell (Nat.le_refl _) _
  · have hcell := hG1.cell (k := (k : Int)) (by omega) (by omega)
    rw [Int.toNat_natCast, hc] at hcell
    by_cases hk0 : (k : Int) = 0
    · rw [hk0, upd_same] at hcell
      have hvv := Option.some.inj hcell
      have h1 := (HO.out.1.lt a.block (by rw [← hvv]; rfl)).1
      simp at h1
      omega
    · rw [upd_other _ _ hk0] at hcell
      cases Option.some.inj hcell
end Go.Proofs.Ytbeombmblifohaa

/- SpaceLowest. -/
namespace Go.Proofs.Ytbeombmblifohaa
set_option linter.unusedVariables false
set_option linter.unusedSimpArgs false
open Go.RowKit Go.Shelf Go.Proofs

set_option maxRecDepth 100000 in
set_option maxHeartbeats 12000000 in
theorem law_lowest12 (l : List Sp.Stp) (hsz : ∀ x ∈ l, -9223372036854775808 ≤ x.size ∧ x.size ≤ 9223372036854775807) (sz : Int) (hs0 : 0 ≤ sz) (hs1 : sz ≤ 255) (ar : Int) (ha0 : 0 ≤ ar) (ha1 : ar ≤ 255) (v : Value) (w : World) (hv : SlR w 6 encStp v l) :
    Calls Try.prog 6 #[v, .int .u8 sz, .int .u8 ar] w fun e w' => e = .returned (.bool true) ∧ Below w.heap.size w w' := by
  obtain ⟨p, cap, rfl, hc1, hc2, hR⟩ := hv
  have HRd := Lib.hid hR
  have HSZ := Lib.hid hsz
  clear hR hsz
  by_cases hlen : l.length ≤ 40
  · have e1 : decide (40 < (l.length : Int)) = false := by simp; omega
    go_enter Try.func6, Try.ntmps6
    go_wp2_with fail
    refine (law12_awake _).mono ?_
    rintro e w1 ⟨rfl, hb1⟩
    have HB1 := Lib.hid hb1
    clear hb1
    go_wp2_with fail
    refine (spc_New _).mono ?_
    rintro e w2 ⟨g1, rfl, hg1, hS1, hb2⟩
    have hA1 : AW w w2 g1 none Sp.spc0 := ⟨hS1, HB1.out.trans (hb2.mono HB1.out.size), by have := HB1.out.size; omega, fun b e => by cases e⟩
    have HA1 := Lib.hid hA1
    clear hS1 hb2 hg1 hA1
    go_wp2_with fail
    refine (spc_New2 _).mono ?_
    rintro e w3 ⟨g2, rfl, hg2, hS2, hb3, hnew⟩
    have hA1' : AW w w3 g1 none Sp.spc0 := HA1.out.next hb3
    have hA2 : AW w w3 g2 none Sp.spc0 := ⟨hS2, hA1'.bel, by have := HA1.out.bel.size; omega, fun b e => by cases e⟩
    have hgg : g1 < g2 := by have := HA1.out.S.lt; omega
    have hn1 : ∀ k : Nat, k ≤ 2 → ∀ a n c, w3.cell? ⟨g1, k, none⟩ = some (.slice (some a) n c) → a.block ≠ g2 := fun k hk a n c hc => by
      have := (HA1.out.S.slices k hk a n c (by rw [← hb3.cell (p := ⟨g1, k, none⟩) HA1.out.S.lt]; exact hc)).1
      omega
    have hS21 : ∀ k : Nat, k ≤ 2 → ∀ a n c, w3.cell? ⟨g2, k, none⟩ = some (.slice (some a) n c) → a.block ≠ g1 := fun k hk a n c hc => by have := hnew k hk a n c hc; have := HA1.out.S.lt; omega
    have hT := TW.first hA1' hA2 ⟨by omega, by simp, (fun b hb => by cases hb), (fun b hb => by cases hb), fun k hk a n c hc => ⟨hn1 k hk a n c hc, by simp⟩⟩ ⟨by omega, by simp, (fun b hb => by cases hb), (fun b hb => by cases hb), fun k hk a n c hc => ⟨hS21 k hk a n c hc, by simp⟩⟩
    have H0 := Lib.hid hT
    clear hS2 hb3 hg2 hA1' hA2 hn1 hT hS21 hnew
    simp only [sA, Sp.spc0] at H0
    go_wp2_with fail
    obtain ⟨z1, hz1e⟩ : ∃ z1, z1 = w3.heap.size := ⟨_, rfl⟩
    obtain ⟨z2, hz2e⟩ : ∃ z2, z2 = w3.heap.size + 1 := ⟨_, rfl⟩
    rw [← hz2e, ← hz1e] at H0
    rw [← hz2e, ← hz1e]
    have hzz : z1 ≠ z2 := by omega
    clear hz1e hz2e
    go_loopw [12] (fun vi wr => ∃ n : Nat, n ≤ l.length ∧ vi = .int .i64 n ∧ Hid (∃ r1 r2 m v1 v2, m = Sp.runR Sp.spc0 (l.take n) ∧ TW w wr g1 r1 m v1 g2 r2 m v2 z1 m v1 z2 m v2)) (fun vi _ => l.length - (intOf vi).toNat)
    case atStart => exact ⟨0, Nat.zero_le _, rfl, Lib.hid ⟨_, _, _, _, _, rfl, H0.out⟩⟩
    case round =>
      obtain ⟨n, hn, rfl, HX⟩ := hrel
      obtain ⟨r1, r2, m, v1, v2, hm, hR⟩ := HX.out
      have hwf := Sp.run_wf (l.take n) Sp.wf0
      rw [← hm] at hwf
      obtain ⟨hwf, hll⟩ := hwf
      have hll' : m.L.length ≤ 40 := by simp [Sp.spc0] at hll; omega
      have HWF := Lib.hid hwf
      have HM := Lib.hid hm
      have HR := Lib.hid hR
      clear HX hwf hm hR hll H0
      by_cases hlt : n < l.length
      · obtain ⟨x, hx⟩ : ∃ x, l[n]? = some x := ⟨_, List.getElem?_eq_getElem hlt⟩
        have hxx : l[n] = x := (List.getElem?_eq_some_iff.1 hx).2
        have HN : Hid (Sp.runR Sp.spc0 (l.take (n + 1)) = Sp.stepR m x) := Lib.hid (by rw [List.take_succ_eq_append_getElem hlt, hxx, Sp.run_snoc, ← HM.out])
        have hxs := HSZ.out x (List.mem_of_getElem? hx)
        have DO1 := Lib.hid fun (W : World) (h : TW w W g1 r1 m v1 g2 r2 m v2 z1 m v1 z2 m v2) => law_do g1 r1 m HWF.out (by omega) x hxs.1 hxs.2 v1 W h.a.A.S h.a.d
        have DO2 := Lib.hid fun (W : World) {z : Nat} {b : Sp.Spc} {c : Value} (h : RW w W g2 r2 m v2 z b c) => law_do g2 r2 m HWF.out (by omega) x hxs.1 hxs.2 v2 W h.A.S h.d
        generalize Sp.stepR m x = q at HN DO1 DO2
        obtain ⟨bb, off, rfl, hbs, -⟩ := HRd.out.at hlt
        have HCL : Hid (∀ W, Below w.heap.size w W → ∀ j u, (encStp x)[j]? = some u → W.cell? ⟨bb, off + n * 6 + j, none⟩ = some u) := Lib.hid fun W hW => by
          have := (HRd.out.below hW (Nat.le_refl _)).in hlt
          rw [hxx] at this
          exact this
        clear hx hxx hxs
        go_wp2_with fail
        refine wp_region_held_drew (S := fun W => Below w.heap.size w W) (by kernel_rfl) HR.out.drew.a.A.bel (fun hHeld => ?_)
        refine wpAnyH_take (i := 0) (v := ?_) rfl (by kernel_rfl) (by kernel_rfl) (by kernel_rfl) (fun _ _ _ h => h) (Or.inl ⟨by rfl, ?_⟩) (by assumption) ?_
        rotate_left
        · intro w hSw; go_simp; try with_reducible rfl
        simp only [Act.put, List.setIfInBounds_toArray, List.set_cons_zero, List.set_cons_succ, List.getElem_toArray, List.getElem_cons_zero, List.getElem_cons_succ]
        refine wpAnyH_take (i := 2) (v := ?_) rfl (by kernel_rfl) (by kernel_rfl) (by kernel_rfl) (fun _ _ _ h => h) (Or.inl ⟨by rfl, ?_⟩) (by assumption) ?_
        rotate_left
        · intro w hSw; go_simp; try with_reducible rfl
        simp only [Act.put, List.setIfInBounds_toArray, List.set_cons_zero, List.set_cons_succ, List.getElem_toArray, List.getElem_cons_zero, List.getElem_cons_succ]
        refine wpAnyH_take (i := 3) (v := ?_) rfl (by kernel_rfl) (by kernel_rfl) (by kernel_rfl) (fun _ _ _ h => h) (Or.inl ⟨by rfl, ?_⟩) (by assumption) ?_
        rotate_left
        · intro w hSw; go_simp; try with_reducible rfl
        simp only [Act.put, List.setIfInBounds_toArray, List.set_cons_zero, List.set_cons_succ, List.getElem_toArray, List.getElem_cons_zero, List.getElem_cons_succ]
        refine wpAnyH_take (i := 4) (v := ?_) rfl (by kernel_rfl) (by kernel_rfl) (by kernel_rfl) (fun _ _ _ h => h) (Or.inl ⟨by rfl, ?_⟩) (by assumption) ?_
        rotate_left
        · intro w hSw; go_simp; try with_reducible rfl
        simp only [Act.put, List.setIfInBounds_toArray, List.set_cons_zero, List.set_cons_succ, List.getElem_toArray, List.getElem_cons_zero, List.getElem_cons_succ]
        refine wpAnyH_take (i := 5) (v := ?_) rfl (by kernel_rfl) (by kernel_rfl) (by kernel_rfl) (fun _ _ _ h => h) (Or.inl ⟨by rfl, ?_⟩) (by assumption) ?_
        rotate_left
        · intro w h; have hcl := HCL.out _ h; have k0 := hcl 0 _ rfl; have k1 := hcl 1 _ rfl; have k2 := hcl 2 _ rfl; have k3 := hcl 3 _ rfl; have k4 := hcl 4 _ rfl; have k5 := hcl 5 _ rfl; simp only [Nat.add_zero] at k0; go_simp; try with_reducible rfl
        simp only [Act.put, List.setIfInBounds_toArray, List.set_cons_zero, List.set_cons_succ, List.getElem_toArray, List.getElem_cons_zero, List.getElem_cons_succ]
        refine held_step (i := 1) rfl (by kernel_rfl) (by rfl) (fun K hK => ?_)
        refine wp_load_row _ _ rfl (z1) rfl _ (sA m v1) (0, 0) _ (HR.out.drew.a.b) Try.underlying31 rfl infoS ?_
        refine hK.out _ _ (HR.out.drew.a.A.bel) (fun hHeld => ?_)
        clear hK K
        try simp only [Act.put, List.setIfInBounds_toArray, List.set_cons_zero, List.set_cons_succ, List.getElem_toArray, List.getElem_cons_zero, List.getElem_cons_succ]
        refine held_step (i := 6) rfl (by kernel_rfl) (by rfl) (fun K hK => ?_)
        go_simp
        refine (DO1.out _ HR.out.drew).mono ?_; rintro e w4 ⟨v4, r4, rfl, hB⟩; have hR4 := TW.step (HR.out.drew) hB; obtain ⟨p4, c4, hv4, -, -, -⟩ := id hB.d.1; subst hv4
        go_wp2_with fail
        refine hK.out _ _ (hR4.a.A.bel) (fun hHeld => ?_)
        clear hK K
        try simp only [Act.put, List.setIfInBounds_toArray, List.set_cons_zero, List.set_cons_succ, List.getElem_toArray, List.getElem_cons_zero, List.getElem_cons_succ]
        refine wpAnyH_take (i := 7) (v := ?_) rfl (by kernel_rfl) (by kernel_rfl) (by kernel_rfl) (fun _ _ _ h => h) (Or.inl ⟨by rfl, ?_⟩) (by assumption) ?_
        rotate_left
        · intro w hSw; go_simp; try with_reducible rfl
        simp only [Act.put, List.setIfInBounds_toArray, List.set_cons_zero, List.set_cons_succ, List.getElem_toArray, List.getElem_cons_zero, List.getElem_cons_succ]
        refine wpAnyH_take (i := 8) (v := ?_) rfl (by kernel_rfl) (by kernel_rfl) (by kernel_rfl) (fun _ _ _ h => h) (Or.inl ⟨by rfl, ?_⟩) (by assumption) ?_
        rotate_left
        · intro w hSw; go_simp; try with_reducible rfl
        simp only [Act.put, List.setIfInBounds_toArray, List.set_cons_zero, List.set_cons_succ, List.getElem_toArray, List.getElem_cons_zero, List.getElem_cons_succ]
        refine wpAnyH_take (i := 9) (v := ?_) rfl (by kernel_rfl) (by kernel_rfl) (by kernel_rfl) (fun _ _ _ h => h) (Or.inl ⟨by rfl, ?_⟩) (by assumption) ?_
        rotate_left
        · intro w hSw; go_simp; try with_reducible rfl
        simp only [Act.put, List.setIfInBounds_toArray, List.set_cons_zero, List.set_cons_succ, List.getElem_toArray, List.getElem_cons_zero, List.getElem_cons_succ]
        refine held_step (i := 10) rfl (by kernel_rfl) (by rfl) (fun K hK => ?_)
        refine wp_store_row _ _ _ rfl (z1) (_) rfl rfl _ (_) (hR4.a.b) infoS (rfl) (oneS _ _ _ _) ?_
        refine hK.out _ _ ((hR4.row q (.slice p4 q.L.length c4)).a.A.bel) (fun hHeld => ?_)
        clear hK K
        try simp only [Act.put, List.setIfInBounds_toArray, List.set_cons_zero, List.set_cons_succ, List.getElem_toArray, List.getElem_cons_zero, List.getElem_cons_succ]
        refine wpAnyH_done (by kernel_rfl) ?_ _
        have H5 := Lib.hid (hR4.row q (.slice p4 q.L.length c4))
        go_wp2_with fail
        refine wp_region_held_drew (S := fun W => Below w.heap.size w W) (by kernel_rfl) H5.out.drew.a.A.bel (fun hHeld => ?_)
        refine wpAnyH_take (i := 0) (v := ?_) rfl (by kernel_rfl) (by kernel_rfl) (by kernel_rfl) (fun _ _ _ h => h) (Or.inl ⟨by rfl, ?_⟩) (by assumption) ?_
        rotate_left
        · intro w hSw; go_simp; try with_reducible rfl
        simp only [Act.put, List.setIfInBounds_toArray, List.set_cons_zero, List.set_cons_succ, List.getElem_toArray, List.getElem_cons_zero, List.getElem_cons_succ]
        refine wpAnyH_take (i := 2) (v := ?_) rfl (by kernel_rfl) (by kernel_rfl) (by kernel_rfl) (fun _ _ _ h => h) (Or.inl ⟨by rfl, ?_⟩) (by assumption) ?_
        rotate_left
        · intro w hSw; go_simp; try with_reducible rfl
        simp only [Act.put, List.setIfInBounds_toArray, List.set_cons_zero, List.set_cons_succ, List.getElem_toArray, List.getElem_cons_zero, List.getElem_cons_succ]
        refine wpAnyH_take (i := 3) (v := ?_) rfl (by kernel_rfl) (by kernel_rfl) (by kernel_rfl) (fun _ _ _ h => h) (Or.inl ⟨by rfl, ?_⟩) (by assumption) ?_
        rotate_left
        · intro w hSw; go_simp; try with_reducible rfl
        simp only [Act.put, List.setIfInBounds_toArray, List.set_cons_zero, List.set_cons_succ, List.getElem_toArray, List.getElem_cons_zero, List.getElem_cons_succ]
        refine wpAnyH_take (i := 4) (v := ?_) rfl (by kernel_rfl) (by kernel_rfl) (by kernel_rfl) (fun _ _ _ h => h) (Or.inl ⟨by rfl, ?_⟩) (by assumption) ?_
        rotate_left
        · intro w hSw; go_simp; try with_reducible rfl
        simp only [Act.put, List.setIfInBounds_toArray, List.set_cons_zero, List.set_cons_succ, List.getElem_toArray, List.getElem_cons_zero, List.getElem_cons_succ]
        refine wpAnyH_take (i := 5) (v := ?_) rfl (by kernel_rfl) (by kernel_rfl) (by kernel_rfl) (fun _ _ _ h => h) (Or.inl ⟨by rfl, ?_⟩) (by assumption) ?_
        rotate_left
        · intro w h; have hcl := HCL.out _ h; have k0 := hcl 0 _ rfl; have k1 := hcl 1 _ rfl; have k2 := hcl 2 _ rfl; have k3 := hcl 3 _ rfl; have k4 := hcl 4 _ rfl; have k5 := hcl 5 _ rfl; simp only [Nat.add_zero] at k0; go_simp; try with_reducible rfl
        simp only [Act.put, List.setIfInBounds_toArray, List.set_cons_zero, List.set_cons_succ, List.getElem_toArray, List.getElem_cons_zero, List.getElem_cons_succ]
        refine held_step (i := 1) rfl (by kernel_rfl) (by rfl) (fun K hK => ?_)
        refine wp_load_row _ _ rfl (z2) rfl _ (sA m v2) (0, 0) _ (H5.out.drew.d.b) Try.underlying31 rfl infoS ?_
        refine hK.out _ _ (H5.out.drew.a.A.bel) (fun hHeld => ?_)
        clear hK K
        try simp only [Act.put, List.setIfInBounds_toArray, List.set_cons_zero, List.set_cons_succ, List.getElem_toArray, List.getElem_cons_zero, List.getElem_cons_succ]
        refine held_step (i := 6) rfl (by kernel_rfl) (by rfl) (fun K hK => ?_)
        go_simp
        refine (DO2.out _ H5.out.drew.d).mono ?_; rintro e w6 ⟨v6, r6, rfl, hB6⟩; have hR6 := TW.step (H5.out.drew.swap) hB6; obtain ⟨p6, c6, hv6, -, -, -⟩ := id hB6.d.1; subst hv6
        go_wp2_with fail
        refine hK.out _ _ (hR6.a.A.bel) (fun hHeld => ?_)
        clear hK K
        try simp only [Act.put, List.setIfInBounds_toArray, List.set_cons_zero, List.set_cons_succ, List.getElem_toArray, List.getElem_cons_zero, List.getElem_cons_succ]
        refine wpAnyH_take (i := 7) (v := ?_) rfl (by kernel_rfl) (by kernel_rfl) (by kernel_rfl) (fun _ _ _ h => h) (Or.inl ⟨by rfl, ?_⟩) (by assumption) ?_
        rotate_left
        · intro w hSw; go_simp; try with_reducible rfl
        simp only [Act.put, List.setIfInBounds_toArray, List.set_cons_zero, List.set_cons_succ, List.getElem_toArray, List.getElem_cons_zero, List.getElem_cons_succ]
        refine wpAnyH_take (i := 8) (v := ?_) rfl (by kernel_rfl) (by kernel_rfl) (by kernel_rfl) (fun _ _ _ h => h) (Or.inl ⟨by rfl, ?_⟩) (by assumption) ?_
        rotate_left
        · intro w hSw; go_simp; try with_reducible rfl
        simp only [Act.put, List.setIfInBounds_toArray, List.set_cons_zero, List.set_cons_succ, List.getElem_toArray, List.getElem_cons_zero, List.getElem_cons_succ]
        refine wpAnyH_take (i := 9) (v := ?_) rfl (by kernel_rfl) (by kernel_rfl) (by kernel_rfl) (fun _ _ _ h => h) (Or.inl ⟨by rfl, ?_⟩) (by assumption) ?_
        rotate_left
        · intro w hSw; go_simp; try with_reducible rfl
        simp only [Act.put, List.setIfInBounds_toArray, List.set_cons_zero, List.set_cons_succ, List.getElem_toArray, List.getElem_cons_zero, List.getElem_cons_succ]
        refine held_step (i := 10) rfl (by kernel_rfl) (by rfl) (fun K hK => ?_)
        refine wp_store_row _ _ _ rfl (z2) (_) rfl rfl _ (_) (hR6.a.b) infoS (rfl) (oneS _ _ _ _) ?_
        refine hK.out _ _ ((hR6.row q (.slice p6 q.L.length c6)).a.A.bel) (fun hHeld => ?_)
        clear hK K
        try simp only [Act.put, List.setIfInBounds_toArray, List.set_cons_zero, List.set_cons_succ, List.getElem_toArray, List.getElem_cons_zero, List.getElem_cons_succ]
        refine wpAnyH_done (by kernel_rfl) ?_ _
        have H7 := Lib.hid (hR6.row q (.slice p6 q.L.length c6)).swap
        go_wp2_with fail
        exact ⟨⟨n + 1, by omega, by go_num, Lib.hid ⟨_, _, _, _, _, HN.out.symm, H7.out⟩⟩, by simp [intOf]; omega⟩
      · have HXX := Lib.hid (TX.of HR.out)
        have hk0 : 0 ≤ ar % 3 := by omega
        have hk2 : ar % 3 ≤ 2 := by omega
        have hn1 : 1 ≤ sz % 9 + 1 := by omega
        have hn9 : sz % 9 + 1 ≤ 9 := by omega
        have hdr := Sp.draw_some HWF.out (o := 5) (k := ar % 3) (z := sz % 9 + 1) (by omega) hk0 hk2 hn1
        have hll3 := Sp.left_len HWF.out (ar % 3)
        have LS := Lib.hid fun (W : World) (h : SpcR W g1 r1 m) => spc_Left' g1 (ar % 3) m HWF.out r1 W h
        have FI := Lib.hid fun (v : Value) (W : World) (h : SlR W 2 encSp v (Sp.leftR m (ar % 3))) => ref_First (Sp.leftR m (ar % 3)) (sz % 9 + 1) v W (by omega) (by omega) (by omega) h
        have DR := Lib.hid fun (W : World) (h : SpcR W g1 r1 m) => spc_Draw g1 r1 m HWF.out (by omega) 5 (ar % 3) (sz % 9 + 1) (by omega) (by omega) W h
        have HTD := Lib.hid fun s (h : Sp.has (Sp.leftR m (ar % 3)) s = true) => Sp.take_drawn HWF.out (o := 5) (by omega) hk0 hk2 h
        have HPL := Lib.hid fun s => Sp.insB_len ⟨s, 5, ar % 3⟩ m.L
        clear HR HM HSZ HRd hk0 hk2 hn1 hn9 hll3
        have hdr' : (∃ s, Sp.drawR m 5 (ar % 3) (sz % 9 + 1) = (Sp.putR m ⟨s, 5, ar % 3⟩, s, 0) ∧ Sp.has (Sp.leftR m (ar % 3)) s = true ∧ Sp.first (Sp.leftR m (ar % 3)) (sz % 9 + 1) = (s, true)) ∨ (∃ c, c ≠ 0 ∧ Sp.drawR m 5 (ar % 3) (sz % 9 + 1) = (m, (0, 0), c) ∧ (Sp.first (Sp.leftR m (ar % 3)) (sz % 9 + 1)).2 = false) := by
          rcases hdr with ⟨s, h1, h2, -, h4⟩ | ⟨h1, -, -, h4⟩ | ⟨h1, -, h4⟩
          · exact Or.inl ⟨s, h1, h2, h4⟩
          · exact Or.inr ⟨31, by decide, h1, h4⟩
          · exact Or.inr ⟨43, by decide, h1, h4⟩
        clear hdr
        rcases hdr' with ⟨⟨s1, s2⟩, hd, hh, hf⟩ | ⟨c, hc0, hd, hf⟩
        · rw [hd] at DR
          rw [hf] at FI
          have htd := HTD.out _ hh
          have hpl := HPL.out (s1, s2)
          have TK := Lib.hid fun (r : Option Nat) (W : World) (h : SpcR W g2 r m) => show Calls Try.prog _ _ _ (RetE g2 r (Sp.putR m ⟨(s1, s2), 5, ar % 3⟩, 0) W) from htd ▸ spc_Take g2 r m HWF.out (by omega) 5 s1 s2 W h
          obtain ⟨qq, hqq⟩ : ∃ qq, qq = Sp.putR m ⟨(s1, s2), 5, ar % 3⟩ := ⟨_, rfl⟩
          have hql : qq.L.length = m.L.length + 1 := by rw [hqq]; exact hpl
          rw [← hqq] at DR TK
          have SN := Lib.hid fun (g : Nat) (r : Option Nat) (v : Value) (W : World) (h : SpcR W g r qq) (h2 : SlR W 4 encBk v m.L) => law_same_no g r qq m (by omega) hql v W h h2
          have BN := Lib.hid fun (g : Nat) (r : Option Nat) (W : World) (h : SpcR W g r qq) => spc_Blocks' g qq (by omega) r W h
          clear hd hh hf htd hpl hqq HTD HPL hql
          go_wp2_with fail
          clear hlt
          refine (LS.out _ HXX.out.A1.S).mono ?_
          rintro e w4 ⟨v4, rfl, h4, hb4⟩
          have H4 := Lib.hid (HXX.out.next hb4)
          go_wp2_with fail
          refine (FI.out _ _ h4).mono ?_
          rintro e w5 ⟨rfl, hb5⟩
          have H5 := Lib.hid ((H4.out.next hb5).next (belowA _ (.cells #[.int .i64 s1, .int .i64 s2] 27)))
          have hxl : w5.heap.size < (w5.alloc (.cells #[.int .i64 s1, .int .i64 s2] 27)).heap.size := by simp
          have hxn : w5.heap.size ≠ g1 ∧ some w5.heap.size ≠ r1 ∧ w5.heap.size ≠ g2 ∧ some w5.heap.size ≠ r2 := by
            have h5 := H4.out.next hb5
            exact ⟨by have := h5.A1.S.lt; omega, fun e => by have := (h5.A1.S.row _ e.symm).2; omega, by have := h5.A2.S.lt; omega, fun e => by have := (h5.A2.S.row _ e.symm).2; omega⟩
          have HXN := Lib.hid hxn
          have HXB : Hid (Blk (w5.alloc (.cells #[.int .i64 s1, .int .i64 s2] 27)) w5.heap.size 27 #[.int .i64 s1, .int .i64 s2]) := Lib.hid (Blk.new _ _ _)
          clear hb4 hb5 h4 hxn hxl
          go_wp2_with fail
          refine (DR.out _ H5.out.A1.S).mono ?_
          rintro e w6 ⟨rfl, hL⟩
          obtain ⟨r6, h6, -⟩ := H5.out.step hL
          have hbx : Blk w6 w5.heap.size 27 #[.int .i64 s1, .int .i64 s2] := by
            obtain ⟨_, _, _, fr, _⟩ := hL
            exact fr.blk HXB.out HXN.out.1 HXN.out.2.1
          have H6 : Hid (TY w (w6.alloc (.cells #[.int .i64 s1, .int .i64 s2] 27)) g1 r6 qq g2 r2 m m v1 v2 z1 z2 w5.heap.size w6.heap.size s1 s2) := Lib.hid
            ⟨h6.next (belowA _ _), hbx.alloc _, Blk.new _ _ _, HXN.out.2.2, by have := h6.A2.S.lt; omega, fun e => by have := (h6.A2.S.row _ e.symm).2; omega⟩
          clear hL h6 hbx
          go_wp2_with fail
          refine (TK.out _ _ H6.out.T.A2.S).mono ?_
          rintro e w7 ⟨rfl, hL⟩
          obtain ⟨r7, h7⟩ := H6.out.step2 hL
          have H7 := Lib.hid h7
          have heqs := run_eql_sp (s1, s2) (s1, s2)
          simp only [decide_true] at heqs
          clear hL h7
          go_wp2_with fail
          refine wp_region_held_drew (S := fun W => TY w W g1 r6 qq g2 r7 qq m v1 v2 z1 z2 w5.heap.size w6.heap.size s1 s2) (by kernel_rfl) H7.out.drew (fun hHeld => ?_)
          refine wpAnyH_take (i := 0) (v := ?_) rfl (by kernel_rfl) (by kernel_rfl) (by kernel_rfl) (fun _ _ _ h => h) (Or.inl ⟨by rfl, ?_⟩) (by assumption) ?_
          rotate_left
          · intro w hSw; go_simp; try with_reducible rfl
          simp only [Act.put, List.setIfInBounds_toArray, List.set_cons_zero, List.set_cons_succ, List.getElem_toArray, List.getElem_cons_zero, List.getElem_cons_succ]
          refine wpAnyH_take (i := 1) (v := ?_) rfl (by kernel_rfl) (by kernel_rfl) (by kernel_rfl) (fun _ _ _ h => h) (Or.inl ⟨by rfl, ?_⟩) (by assumption) ?_
          rotate_left
          · intro w hSw; go_simp; try with_reducible rfl
          simp only [Act.put, List.setIfInBounds_toArray, List.set_cons_zero, List.set_cons_succ, List.getElem_toArray, List.getElem_cons_zero, List.getElem_cons_succ]
          refine wpAnyH_take (i := 2) rfl (by kernel_rfl) (by kernel_rfl) (by kernel_rfl) (fun _ _ _ h => h) (yieldsIf_load_row (by rfl) _ _ rfl (w5.heap.size) rfl _ (#[.int .i64 s1, .int .i64 s2]) _ (fun w h => h.bx) Try.underlying27 rfl infoSpn) (by assumption) ?_
          simp only [Act.put, List.setIfInBounds_toArray, List.set_cons_zero, List.set_cons_succ, List.getElem_toArray, List.getElem_cons_zero, List.getElem_cons_succ]
          refine wpAnyH_take (i := 3) rfl (by kernel_rfl) (by kernel_rfl) (by kernel_rfl) (fun _ _ _ h => h) (yieldsIf_load_row (by rfl) _ _ rfl (w6.heap.size) rfl _ (#[.int .i64 s1, .int .i64 s2]) _ (fun w h => h.bY) Try.underlying27 rfl infoSpn) (by assumption) ?_
          simp only [Act.put, List.setIfInBounds_toArray, List.set_cons_zero, List.set_cons_succ, List.getElem_toArray, List.getElem_cons_zero, List.getElem_cons_succ]
          refine wpAnyH_take (i := 4) (v := ?_) rfl (by kernel_rfl) (by kernel_rfl) (by kernel_rfl) (fun _ _ _ h => h) (Or.inl ⟨by rfl, ?_⟩) (by assumption) ?_
          rotate_left
          · intro w hSw; go_simp; try with_reducible rfl
          simp only [Act.put, List.setIfInBounds_toArray, List.set_cons_zero, List.set_cons_succ, List.getElem_toArray, List.getElem_cons_zero, List.getElem_cons_succ]
          refine wpAnyH_take (i := 5) (v := ?_) rfl (by kernel_rfl) (by kernel_rfl) (by kernel_rfl) (fun _ _ _ h => h) (Or.inl ⟨by rfl, ?_⟩) (by assumption) ?_
          rotate_left
          · intro w hSw; go_simp; try with_reducible rfl
          simp only [Act.put, List.setIfInBounds_toArray, List.set_cons_zero, List.set_cons_succ, List.getElem_toArray, List.getElem_cons_zero, List.getElem_cons_succ]
          refine wpAnyH_take (i := 6) (v := ?_) rfl (by kernel_rfl) (by kernel_rfl) (by kernel_rfl) (fun _ _ _ h => h) (Or.inl ⟨by rfl, ?_⟩) (by assumption) ?_
          rotate_left
          · intro w hSw; go_simp; try with_reducible rfl
          simp only [Act.put, List.setIfInBounds_toArray, List.set_cons_zero, List.set_cons_succ, List.getElem_toArray, List.getElem_cons_zero, List.getElem_cons_succ]
          refine wpAnyH_take (i := 7) (v := ?_) rfl (by kernel_rfl) (by kernel_rfl) (by kernel_rfl) (fun _ _ _ h => h) (Or.inl ⟨by rfl, ?_⟩) (by assumption) ?_
          rotate_left
          · intro w hSw; go_simp; try with_reducible rfl
          simp only [Act.put, List.setIfInBounds_toArray, List.set_cons_zero, List.set_cons_succ, List.getElem_toArray, List.getElem_cons_zero, List.getElem_cons_succ]
          refine wpAnyH_take (i := 8) (v := ?_) rfl (by kernel_rfl) (by kernel_rfl) (by kernel_rfl) (fun _ _ _ h => h) (Or.inl ⟨by rfl, ?_⟩) (by assumption) ?_
          rotate_left
          · intro w hSw; go_simp; try with_reducible rfl
          simp only [Act.put, List.setIfInBounds_toArray, List.set_cons_zero, List.set_cons_succ, List.getElem_toArray, List.getElem_cons_zero, List.getElem_cons_succ]
          refine wpAnyH_take (i := 9) (v := ?_) rfl (by kernel_rfl) (by kernel_rfl) (by kernel_rfl) (fun _ _ _ h => h) (Or.inl ⟨by rfl, ?_⟩) (by assumption) ?_
          rotate_left
          · intro w hSw; go_simp; try with_reducible rfl
          simp only [Act.put, List.setIfInBounds_toArray, List.set_cons_zero, List.set_cons_succ, List.getElem_toArray, List.getElem_cons_zero, List.getElem_cons_succ]
          refine wpAnyH_take (i := 10) (v := ?_) rfl (by kernel_rfl) (by kernel_rfl) (by kernel_rfl) (fun _ _ _ h => h) (Or.inl ⟨by rfl, ?_⟩) (by assumption) ?_
          rotate_left
          · intro w hSw; go_simp; try with_reducible rfl
          simp only [Act.put, List.setIfInBounds_toArray, List.set_cons_zero, List.set_cons_succ, List.getElem_toArray, List.getElem_cons_zero, List.getElem_cons_succ]
          refine wpAnyH_take (i := 11) (v := ?_) rfl (by kernel_rfl) (by kernel_rfl) (by kernel_rfl) (fun _ _ _ h => h) (Or.inl ⟨by rfl, ?_⟩) (by assumption) ?_
          rotate_left
          · intro w hSw; go_simp; try with_reducible rfl
          simp only [Act.put, List.setIfInBounds_toArray, List.set_cons_zero, List.set_cons_succ, List.getElem_toArray, List.getElem_cons_zero, List.getElem_cons_succ]
          refine wpAnyH_take (i := 12) rfl (by kernel_rfl) (by kernel_rfl) (by kernel_rfl) (fun _ _ _ h => h) (yieldsIf_load_row (by rfl) _ _ rfl (z1) rfl _ (sA m v1) _ (fun w h => h.T.e1) Try.underlying31 rfl infoS) (by assumption) ?_
          simp only [Act.put, List.setIfInBounds_toArray, List.set_cons_zero, List.set_cons_succ, List.getElem_toArray, List.getElem_cons_zero, List.getElem_cons_succ]
          refine wpAnyH_take (i := 14) (v := ?_) rfl (by kernel_rfl) (by kernel_rfl) (by kernel_rfl) (fun _ _ _ h => h) (Or.inl ⟨by rfl, ?_⟩) (by assumption) ?_
          rotate_left
          · intro w hSw; go_simp; try with_reducible rfl
          simp only [Act.put, List.setIfInBounds_toArray, List.set_cons_zero, List.set_cons_succ, List.getElem_toArray, List.getElem_cons_zero, List.getElem_cons_succ]
          refine wpAnyH_take (i := 15) rfl (by kernel_rfl) (by kernel_rfl) (by kernel_rfl) (fun _ _ _ h => h) (yieldsIf_load_row (by rfl) _ _ rfl (z2) rfl _ (sA m v2) _ (fun w h => h.T.e2) Try.underlying31 rfl infoS) (by assumption) ?_
          simp only [Act.put, List.setIfInBounds_toArray, List.set_cons_zero, List.set_cons_succ, List.getElem_toArray, List.getElem_cons_zero, List.getElem_cons_succ]
          refine held_step (i := 13) rfl (by kernel_rfl) (by rfl) (fun K hK => ?_)
          go_simp
          refine (SN.out g2 _ v1 _ H7.out.drew.T.A2.S H7.out.drew.T.d1.1).mono ?_; rintro e w8 ⟨rfl, hb8⟩; have H8 := H7.out.drew.next hb8
          go_wp2_with fail
          refine hK.out _ _ (H8) (fun hHeld => ?_)
          clear hK K
          try simp only [Act.put, List.setIfInBounds_toArray, List.set_cons_zero, List.set_cons_succ, List.getElem_toArray, List.getElem_cons_zero, List.getElem_cons_succ]
          refine held_step (i := 16) rfl (by kernel_rfl) (by rfl) (fun K hK => ?_)
          go_simp
          refine (SN.out g1 _ v2 _ H8.T.A1.S H8.T.d2.1).mono ?_; rintro e w9 ⟨rfl, hb9⟩; have H9 := H8.next hb9
          go_wp2_with fail
          refine hK.out _ _ (H9) (fun hHeld => ?_)
          clear hK K
          try simp only [Act.put, List.setIfInBounds_toArray, List.set_cons_zero, List.set_cons_succ, List.getElem_toArray, List.getElem_cons_zero, List.getElem_cons_succ]
          refine wpAnyH_take (i := 17) (v := ?_) rfl (by kernel_rfl) (by kernel_rfl) (by kernel_rfl) (fun _ _ _ h => h) (Or.inl ⟨by rfl, ?_⟩) (by assumption) ?_
          rotate_left
          · intro w hSw; go_simp; try with_reducible rfl
          simp only [Act.put, List.setIfInBounds_toArray, List.set_cons_zero, List.set_cons_succ, List.getElem_toArray, List.getElem_cons_zero, List.getElem_cons_succ]
          refine wpAnyH_take (i := 18) (v := ?_) rfl (by kernel_rfl) (by kernel_rfl) (by kernel_rfl) (fun _ _ _ h => h) (Or.inl ⟨by rfl, ?_⟩) (by assumption) ?_
          rotate_left
          · intro w hSw; go_simp; try with_reducible rfl
          simp only [Act.put, List.setIfInBounds_toArray, List.set_cons_zero, List.set_cons_succ, List.getElem_toArray, List.getElem_cons_zero, List.getElem_cons_succ]
          refine wpAnyH_take (i := 19) (v := ?_) rfl (by kernel_rfl) (by kernel_rfl) (by kernel_rfl) (fun _ _ _ h => h) (Or.inl ⟨by rfl, ?_⟩) (by assumption) ?_
          rotate_left
          · intro w hSw; go_simp; try with_reducible rfl
          simp only [Act.put, List.setIfInBounds_toArray, List.set_cons_zero, List.set_cons_succ, List.getElem_toArray, List.getElem_cons_zero, List.getElem_cons_succ]
          refine wpAnyH_take (i := 20) (v := ?_) rfl (by kernel_rfl) (by kernel_rfl) (by kernel_rfl) (fun _ _ _ h => h) (Or.inl ⟨by rfl, ?_⟩) (by assumption) ?_
          rotate_left
          · intro w hSw; go_simp; try with_reducible rfl
          simp only [Act.put, List.setIfInBounds_toArray, List.set_cons_zero, List.set_cons_succ, List.getElem_toArray, List.getElem_cons_zero, List.getElem_cons_succ]
          refine wpAnyH_take (i := 23) (v := ?_) rfl (by kernel_rfl) (by kernel_rfl) (by kernel_rfl) (fun _ _ _ h => h) (Or.inl ⟨by rfl, ?_⟩) (by assumption) ?_
          rotate_left
          · intro w hSw; go_simp; try with_reducible rfl
          simp only [Act.put, List.setIfInBounds_toArray, List.set_cons_zero, List.set_cons_succ, List.getElem_toArray, List.getElem_cons_zero, List.getElem_cons_succ]
          refine held_step (i := 21) rfl (by kernel_rfl) (by rfl) (fun K hK => ?_)
          go_simp
          refine (BN.out g1 _ _ H9.T.A1.S).mono ?_; rintro e wa ⟨va, rfl, hoa, hba⟩; have Ha := H9.next hba; obtain ⟨pa, ca, hva, -⟩ := SlR.of_owns encBk_len hoa; subst hva
          go_wp2_with fail
          refine hK.out _ _ (Ha) (fun hHeld => ?_)
          clear hK K
          try simp only [Act.put, List.setIfInBounds_toArray, List.set_cons_zero, List.set_cons_succ, List.getElem_toArray, List.getElem_cons_zero, List.getElem_cons_succ]
          refine wpAnyH_take (i := 22) (v := ?_) rfl (by kernel_rfl) (by kernel_rfl) (by kernel_rfl) (fun _ _ _ h => h) (Or.inl ⟨by rfl, ?_⟩) (by assumption) ?_
          rotate_left
          · intro w hSw; go_simp; try with_reducible rfl
          simp only [Act.put, List.setIfInBounds_toArray, List.set_cons_zero, List.set_cons_succ, List.getElem_toArray, List.getElem_cons_zero, List.getElem_cons_succ]
          refine held_step (i := 24) rfl (by kernel_rfl) (by rfl) (fun K hK => ?_)
          go_simp
          refine (BN.out g2 _ _ Ha.T.A2.S).mono ?_; rintro e wb ⟨vb, rfl, hob, hbb⟩; have Hb := Ha.next hbb; obtain ⟨pb, cb, hvb, -⟩ := SlR.of_owns encBk_len hob; subst hvb
          go_wp2_with fail
          refine hK.out _ _ (Hb) (fun hHeld => ?_)
          clear hK K
          try simp only [Act.put, List.setIfInBounds_toArray, List.set_cons_zero, List.set_cons_succ, List.getElem_toArray, List.getElem_cons_zero, List.getElem_cons_succ]
          refine wpAnyH_take (i := 25) (v := ?_) rfl (by kernel_rfl) (by kernel_rfl) (by kernel_rfl) (fun _ _ _ h => h) (Or.inl ⟨by rfl, ?_⟩) (by assumption) ?_
          rotate_left
          · intro w hSw; go_simp; try with_reducible rfl
          simp only [Act.put, List.setIfInBounds_toArray, List.set_cons_zero, List.set_cons_succ, List.getElem_toArray, List.getElem_cons_zero, List.getElem_cons_succ]
          refine wpAnyH_take (i := 26) (v := ?_) rfl (by kernel_rfl) (by kernel_rfl) (by kernel_rfl) (fun _ _ _ h => h) (Or.inl ⟨by rfl, ?_⟩) (by assumption) ?_
          rotate_left
          · intro w hSw; go_simp; try with_reducible rfl
          simp only [Act.put, List.setIfInBounds_toArray, List.set_cons_zero, List.set_cons_succ, List.getElem_toArray, List.getElem_cons_zero, List.getElem_cons_succ]
          refine wpAnyH_take (i := 27) (v := ?_) rfl (by kernel_rfl) (by kernel_rfl) (by kernel_rfl) (fun _ _ _ h => h) (Or.inl ⟨by rfl, ?_⟩) (by assumption) ?_
          rotate_left
          · intro w hSw; go_simp; try with_reducible rfl
          simp only [Act.put, List.setIfInBounds_toArray, List.set_cons_zero, List.set_cons_succ, List.getElem_toArray, List.getElem_cons_zero, List.getElem_cons_succ]
          refine wpAnyH_take (i := 28) (v := ?_) rfl (by kernel_rfl) (by kernel_rfl) (by kernel_rfl) (fun _ _ _ h => h) (Or.inl ⟨by rfl, ?_⟩) (by assumption) ?_
          rotate_left
          · intro w hSw; go_simp; try with_reducible rfl
          simp only [Act.put, List.setIfInBounds_toArray, List.set_cons_zero, List.set_cons_succ, List.getElem_toArray, List.getElem_cons_zero, List.getElem_cons_succ]
          refine wpAnyH_done (by kernel_rfl) ?_ _
          go_wp2_with fail
          go_ret
          exact ⟨rfl, Hb.T.A1.bel⟩
        · rw [hd] at DR
          obtain ⟨a, b, is, hfe⟩ : ∃ a b is, Sp.first (Sp.leftR m (ar % 3)) (sz % 9 + 1) = ((a, b), is) := ⟨_, _, _, rfl⟩
          rw [hfe] at hf FI
          have his : is = false := hf
          subst his
          have hcn : ((c : Int) != 0) = true := by rw [bne_iff_ne]; exact hc0
          clear hd hf hfe hc0 HTD HPL
          go_wp2_with fail
          clear hlt
          refine (LS.out _ HXX.out.A1.S).mono ?_
          rintro e w4 ⟨v4, rfl, h4, hb4⟩
          have H4 := Lib.hid (HXX.out.next hb4)
          go_wp2_with fail
          refine (FI.out _ _ h4).mono ?_
          rintro e w5 ⟨rfl, hb5⟩
          have H5 := Lib.hid ((H4.out.next hb5).next (belowA _ (.cells #[.int .i64 a, .int .i64 b] 27)))
          clear hb4 hb5 h4
          go_wp2_with fail
          refine (DR.out _ H5.out.A1.S).mono ?_
          rintro e w6 ⟨rfl, hL⟩
          obtain ⟨r6, h6, -⟩ := H5.out.step hL
          have H6 := Lib.hid (h6.next (belowA _ (.cells #[.int .i64 0, .int .i64 0] 27)))
          clear hL h6
          go_wp2_with fail
          go_ret
          exact ⟨rfl, H6.out.A1.bel⟩
  · have e1 : decide (40 < (l.length : Int)) = true := by simp; omega
    go_enter Try.func6, Try.ntmps6
    go_wp2_with fail
    refine (law12_awake _).mono ?_
    rintro e w1 ⟨rfl, hb1⟩
    go_wp2_with fail
    go_ret
    exact ⟨rfl, hb1⟩
end Go.Proofs.Ytbeombmblifohaa
