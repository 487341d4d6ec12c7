/- The space package: in, cut, add. -/
import Derived.Test.YtbeombmblifohaaSpcFns
namespace Go.Proofs.Ytbeombmblifohaa
set_option linter.unusedVariables false
set_option linter.unusedSimpArgs false
open Go.RowKit Go.Shelf Go.Proofs

theorem spc_in (g : Nat) (a b : Int) (v0 v1 v2 vb : Value) (m : Sp.Spc) (hm : Sp.WF m) (r : Option Nat) (w : World) (h : SpcV w g r m v0 v1 v2 vb) :
    Calls Try.prog 47 #[.pointer (some ⟨g, 0, none⟩), .agg #[.int .i64 a, .int .i64 b]] w fun e w' => e = .returned (.int .i64 (Sp.inR m (a, b))) ∧ Below w.heap.size w w' := by
  have hal : Try.prog.arrayLen 63 = 3 := by kernel_rfl
  have hB0 : Below w.heap.size w (w.alloc (.cells #[.int .i64 a, .int .i64 b] 27)) := belowA w _
  have h' := h.below hB0
  have hi : I3 (w.alloc (.cells #[.int .i64 a, .int .i64 b] 27)) (w.alloc (.cells #[.int .i64 a, .int .i64 b] 27)) g w.heap.size a b v0 v1 v2 (Sp.leftR m 0) (Sp.leftR m 1) (Sp.leftR m 2) :=
    ⟨h'.1.cell 0, h'.1.cell 1, h'.1.cell 2, h'.2.1.1, h'.2.2.1.1, h'.2.2.2.1.1, (Blk.new w _ _).cell 0, (Blk.new w _ _).cell 1, Below.refl _ _⟩
  have l0 := Sp.left_len hm 0
  have l1 := Sp.left_len hm 1
  have l2 := Sp.left_len hm 2
  have HC := Lib.hid (index3 g w.heap.size a b v0 v1 v2 (Sp.leftR m 0) (Sp.leftR m 1) (Sp.leftR m 2) (by omega) (by omega) (by omega) _ hi)
  have hr : in3 (Sp.leftR m 0) (Sp.leftR m 1) (Sp.leftR m 2) (a, b) = Sp.inR m (a, b) := rfl
  rw [hr] at HC
  generalize Sp.inR m (a, b) = n at HC ⊢
  have HB := Lib.hid hB0
  clear hi h' l0 l1 l2 hr hm h hB0
  go_enter Try.func47, Try.ntmps47
  go_wp2_with fail
  refine HC.out.mono ?_
  rintro e w1 ⟨rfl, hb1⟩
  go_wp2_with fail
  go_ret
  exact ⟨rfl, HB.out.trans (hb1.mono HB.out.size)⟩

/-- what a call that turns one slice of an area leaves -/
def RetCut (g : Nat) (k : Int) (l : List Sp.S) (W : World) (e : Ending) (w' : World) : Prop :=
  e = .returned (.tuple #[]) ∧ ∃ v' W1, W1.ownsRow W.heap.size 27 2 v' l.length (flat encSp l) ∧ Below W.heap.size W W1 ∧ w' = W1.setCell ⟨g, k.toNat, none⟩ v'
abbrev SC (w : World) (g kn : Nat) (v : Value) (a b : Int) (l : List Sp.S) (W : World) : Prop :=
  W.cell? ⟨g, kn, none⟩ = some v ∧ W.frozen? ⟨g, kn, none⟩ = false ∧ W.cell? ⟨w.heap.size, 0, none⟩ = some (.int .i64 a) ∧ W.cell? ⟨w.heap.size, 1, none⟩ = some (.int .i64 b) ∧ Hid (SlR W 2 encSp v l) ∧ Below w.heap.size w W
theorem SC.next {w W W' : World} {g kn : Nat} {v : Value} {a b : Int} {l : List Sp.S} (h : SC w g kn v a b l W) (hb : Below W.heap.size W W') : SC w g kn v a b l W' := by
  obtain ⟨h1, h2, h3, h4, h5, h6⟩ := h
  have hg : g < W.heap.size := World.block_lt_of_cell? W _ h1
  have hB : w.heap.size < W.heap.size := World.block_lt_of_cell? W _ h3
  exact ⟨(hb.cell (p := ⟨g, kn, none⟩) hg).trans h1, (hb.frozen (p := ⟨g, kn, none⟩) hg).trans h2, (hb.cell (p := ⟨w.heap.size, 0, none⟩) hB).trans h3, (hb.cell (p := ⟨w.heap.size, 1, none⟩) hB).trans h4, Lib.hid (h5.out.below hb (Nat.le_refl _)), h6.trans (hb.mono h6.size)⟩
set_option maxHeartbeats 1000000 in
theorem free_cut (g : Nat) (k : Int) (h0 : 0 ≤ k) (h2 : k ≤ 2) (v : Value) (l : List Sp.S) (a b : Int) (w : World) (hc : w.cell? ⟨g, k.toNat, none⟩ = some v) (hf : w.frozen? ⟨g, k.toNat, none⟩ = false) (hv : SlR w 2 encSp v l) (hl : l.length ≤ 536870912) :
    Calls Try.prog 49 #[.pointer (some ⟨g, 0, none⟩), .int .i64 k, .agg #[.int .i64 a, .int .i64 b]] w (RetCut g k (Sp.cut l (a, b)) w) := by
  have hgl : g < w.heap.size := World.block_lt_of_cell? w _ hc
  have CC := Lib.hid fun W h => spans_Cut l (a, b) v W hl h
  have hk3 : k < 3 := by omega
  have hst : SC w g k.toNat v a b l (w.alloc (.cells #[.int .i64 a, .int .i64 b] 27)) :=
    ⟨((belowA w _).cell (p := ⟨g, k.toNat, none⟩) hgl).trans hc, ((belowA w _).frozen (p := ⟨g, k.toNat, none⟩) hgl).trans hf, (Blk.new w _ _).cell 0, (Blk.new w _ _).cell 1, Lib.hid (hv.below (belowA w _) (Nat.le_refl _)), belowA w _⟩
  have HST := Lib.hid hst
  generalize Sp.cut l (a, b) = m at CC ⊢
  clear hst hv hc hf
  go_enter Try.func49, Try.ntmps49
  go_wp2_with fail
  have hst := HST.out
  obtain ⟨q1, q2, q3, q4, q5, q6⟩ := hst
  go_region_with ((go_at_call 69; refine (CC.out _ (by first | exact q5.out | exact (q5.out.below (below_drewN (Below.refl _ _) _) (Nat.le_refl _)))).mono ?_; rintro e w1 ⟨v1, rfl, ho1, hb1⟩; obtain ⟨p1, cc1, rfl, -, -, -⟩ := owns_sp ho1; have hst1 := SC.next (w := w) (g := g) (kn := k.toNat) (v := v) (a := a) (b := b) (l := l) ⟨q1, q2, q3, q4, q5, q6⟩ (by first | exact hb1 | exact (Below.refl _ _).drew.trans hb1 | exact (below_drewN (Below.refl _ _) _).trans hb1); have u1 := hst1.1; have u2 := hst1.2.1; have u6 := hst1.2.2.2.2.2))
  all_goals go_end0
  all_goals exact ⟨rfl, _, w1, owns_base ho1 (by simp), u6, rfl⟩
set_option maxHeartbeats 1000000 in
theorem free_add (g : Nat) (k : Int) (h0 : 0 ≤ k) (h2 : k ≤ 2) (v : Value) (l : List Sp.S) (a b : Int) (w : World) (hc : w.cell? ⟨g, k.toNat, none⟩ = some v) (hf : w.frozen? ⟨g, k.toNat, none⟩ = false) (hv : SlR w 2 encSp v l) (hl : l.length ≤ 536870912) :
    Calls Try.prog 27 #[.pointer (some ⟨g, 0, none⟩), .int .i64 k, .agg #[.int .i64 a, .int .i64 b]] w (RetCut g k (Sp.add l (a, b)) w) := by
  have hgl : g < w.heap.size := World.block_lt_of_cell? w _ hc
  have CC := Lib.hid fun W h => spans_Add l hl (a, b) v W h
  have hk3 : k < 3 := by omega
  have hst : SC w g k.toNat v a b l (w.alloc (.cells #[.int .i64 a, .int .i64 b] 27)) :=
    ⟨((belowA w _).cell (p := ⟨g, k.toNat, none⟩) hgl).trans hc, ((belowA w _).frozen (p := ⟨g, k.toNat, none⟩) hgl).trans hf, (Blk.new w _ _).cell 0, (Blk.new w _ _).cell 1, Lib.hid (hv.below (belowA w _) (Nat.le_refl _)), belowA w _⟩
  have HST := Lib.hid hst
  generalize Sp.add l (a, b) = m at CC ⊢
  clear hst hv hc hf
  go_enter Try.func27, Try.ntmps27
  go_wp2_with fail
  have hst := HST.out
  obtain ⟨q1, q2, q3, q4, q5, q6⟩ := hst
  go_region_with ((go_at_call 52; refine (CC.out _ (by first | exact q5.out | exact (q5.out.below (below_drewN (Below.refl _ _) _) (Nat.le_refl _)))).mono ?_; rintro e w1 ⟨v1, rfl, ho1, hb1⟩; obtain ⟨p1, cc1, rfl, -, -, -⟩ := owns_sp ho1; have hst1 := SC.next (w := w) (g := g) (kn := k.toNat) (v := v) (a := a) (b := b) (l := l) ⟨q1, q2, q3, q4, q5, q6⟩ (by first | exact hb1 | exact (Below.refl _ _).drew.trans hb1 | exact (below_drewN (Below.refl _ _) _).trans hb1); have u1 := hst1.1; have u2 := hst1.2.1; have u6 := hst1.2.2.2.2.2))
  all_goals go_end0
  all_goals exact ⟨rfl, _, w1, owns_base ho1 (by simp), u6, rfl⟩
end Go.Proofs.Ytbeombmblifohaa
