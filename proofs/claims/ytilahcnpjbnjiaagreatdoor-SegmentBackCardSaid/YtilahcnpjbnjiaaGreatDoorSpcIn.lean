/- The space package: free's in, cut, add; owns, is. -/
import Derived.Test.YtilahcnpjbnjiaaGreatDoorSpcLib2
namespace Go.Proofs.YtilahcnpjbnjiaaGreatDoor
set_option linter.unusedVariables false
set_option linter.unusedSimpArgs false
open Go.RowKit Go.Shelf Go.Proofs

theorem in_closure (l : List Sp.S) (hl : l.length ≤ 1073741824) (a b : Int) (Bs : Nat) (v : Value) (W : World) (hv : SlR W 2 encSp v l) (h0 : W.cell? ⟨Bs, 0, none⟩ = some (.int .i64 a)) (h1 : W.cell? ⟨Bs, 1, none⟩ = some (.int .i64 b)) :
    Calls Tryz.prog 82 #[v, .pointer (some ⟨Bs, 0, none⟩)] W fun e w' => e = .returned (.bool (Sp.has l (a, b))) ∧ Below W.heap.size W w' := by
  have HC := Lib.hid (spans_Has l hl (a, b) v W hv)
  have hbs : Bs < W.heap.size := World.block_lt_of_cell? W _ h0
  generalize Sp.has l (a, b) = r at HC ⊢
  clear hv
  go_enter Tryz.func82, Tryz.ntmps82
  go_wp2_with fail
  refine HC.out.mono ?_
  rintro e w' ⟨rfl, hb⟩
  go_wp2_with fail
  go_ret
  exact ⟨rfl, hb⟩
def in3 (l0 l1 l2 : List Sp.S) (s : Sp.S) : Int := if Sp.has l0 s = true then 0 else if Sp.has l1 s = true then 1 else if Sp.has l2 s = true then 2 else -1
structure I3 (w W : World) (g Bs : Nat) (a b : Int) (v0 v1 v2 : Value) (l0 l1 l2 : List Sp.S) : Prop where
  c0 : W.cell? ⟨g, 0, none⟩ = some v0
  c1 : W.cell? ⟨g, 1, none⟩ = some v1
  c2 : W.cell? ⟨g, 2, none⟩ = some v2
  r0 : SlR W 2 encSp v0 l0
  r1 : SlR W 2 encSp v1 l1
  r2 : SlR W 2 encSp v2 l2
  b0 : W.cell? ⟨Bs, 0, none⟩ = some (.int .i64 a)
  b1 : W.cell? ⟨Bs, 1, none⟩ = some (.int .i64 b)
  below : Below w.heap.size w W
theorem I3.next {w W W' : World} {g Bs : Nat} {a b : Int} {v0 v1 v2 : Value} {l0 l1 l2 : List Sp.S} (h : I3 w W g Bs a b v0 v1 v2 l0 l1 l2) (hb : Below W.heap.size W W') : I3 w W' g Bs a b v0 v1 v2 l0 l1 l2 := by
  have hg : g < W.heap.size := World.block_lt_of_cell? W _ h.c0
  have hB : Bs < W.heap.size := World.block_lt_of_cell? W _ h.b0
  exact ⟨(hb.cell (p := ⟨g, 0, none⟩) hg).trans h.c0, (hb.cell (p := ⟨g, 1, none⟩) hg).trans h.c1, (hb.cell (p := ⟨g, 2, none⟩) hg).trans h.c2, h.r0.below hb (Nat.le_refl _), h.r1.below hb (Nat.le_refl _), h.r2.below hb (Nat.le_refl _),
    (hb.cell (p := ⟨Bs, 0, none⟩) hB).trans h.b0, (hb.cell (p := ⟨Bs, 1, none⟩) hB).trans h.b1, h.below.trans (hb.mono h.below.size)⟩
set_option maxRecDepth 100000 in
set_option maxHeartbeats 2000000 in
theorem index3 (g Bs : Nat) (a b : Int) (v0 v1 v2 : Value) (l0 l1 l2 : List Sp.S) (h0 : l0.length ≤ 1073741824) (h1 : l1.length ≤ 1073741824) (h2 : l2.length ≤ 1073741824) (w : World) (h : I3 w w g Bs a b v0 v1 v2 l0 l1 l2) :
    Calls Tryz.prog 81 #[.slice (some ⟨g, 0, none⟩) 3 3, .func (.func 82) #[] #[.pointer (some ⟨Bs, 0, none⟩)]] w fun e w' => e = .returned (.int .i64 (in3 l0 l1 l2 (a, b))) ∧ Below w.heap.size w w' := by
  have H0 := Lib.hid h
  have C0 := Lib.hid fun W h => in_closure l0 h0 a b Bs v0 W h
  have C1 := Lib.hid fun W h => in_closure l1 h1 a b Bs v1 W h
  have C2 := Lib.hid fun W h => in_closure l2 h2 a b Bs v2 W h
  have hr : Hid (in3 l0 l1 l2 (a, b) = if Sp.has l0 (a, b) = true then 0 else if Sp.has l1 (a, b) = true then 1 else if Sp.has l2 (a, b) = true then 2 else -1) := Lib.hid rfl
  have k0 := h.c0
  rw [hr.out]
  clear h hr
  cases e0 : Sp.has l0 (a, b)
  · rw [e0] at C0
    clear e0
    cases e1 : Sp.has l1 (a, b)
    · rw [e1] at C1
      clear e1
      cases e2 : Sp.has l2 (a, b)
      all_goals rw [e2] at C2
      all_goals clear e2
      all_goals
        simp only [Bool.false_eq_true, if_false, if_true]
        go_enter Tryz.func81, Tryz.ntmps81
        go_wp2_with fail
        refine wp_loop_rounds 4 ?_
        rw [rounds_succ]
        go_wp2_with fail
        refine (C0.out _ H0.out.r0 H0.out.b0 H0.out.b1).mono ?_
        rintro e w1 ⟨rfl, hb1⟩
        have H1 := Lib.hid (H0.out.next hb1)
        have k1 := H1.out.c1
        clear hb1
        go_wp2_with fail
        rw [rounds_succ]
        go_wp2_with fail
        refine (C1.out _ H1.out.r1 H1.out.b0 H1.out.b1).mono ?_
        rintro e w2 ⟨rfl, hb2⟩
        have H2 := Lib.hid (H1.out.next hb2)
        have k2 := H2.out.c2
        clear hb2
        go_wp2_with fail
        rw [rounds_succ]
        go_wp2_with fail
        refine (C2.out _ H2.out.r2 H2.out.b0 H2.out.b1).mono ?_
        rintro e w3 ⟨rfl, hb3⟩
        have H3 := Lib.hid (H2.out.next hb3)
        clear hb3
        go_wp2_with fail
      · rw [rounds_succ]
        go_wp2_with fail
        go_ret
        exact ⟨rfl, H3.out.below⟩
      · go_ret
        exact ⟨rfl, H3.out.below⟩
    · rw [e1] at C1
      clear e1
      simp only [Bool.false_eq_true, if_false, if_true]
      go_enter Tryz.func81, Tryz.ntmps81
      go_wp2_with fail
      refine wp_loop_rounds 2 ?_
      rw [rounds_succ]
      go_wp2_with fail
      refine (C0.out _ H0.out.r0 H0.out.b0 H0.out.b1).mono ?_
      rintro e w1 ⟨rfl, hb1⟩
      have H1 := Lib.hid (H0.out.next hb1)
      have k1 := H1.out.c1
      clear hb1
      go_wp2_with fail
      rw [rounds_succ]
      go_wp2_with fail
      refine (C1.out _ H1.out.r1 H1.out.b0 H1.out.b1).mono ?_
      rintro e w2 ⟨rfl, hb2⟩
      have H2 := Lib.hid (H1.out.next hb2)
      clear hb2
      go_wp2_with fail
      go_ret
      exact ⟨rfl, H2.out.below⟩
  · rw [e0] at C0
    clear e0
    simp only [if_true]
    go_enter Tryz.func81, Tryz.ntmps81
    go_wp2_with fail
    refine wp_loop_rounds 1 ?_
    rw [rounds_succ]
    go_wp2_with fail
    refine (C0.out _ H0.out.r0 H0.out.b0 H0.out.b1).mono ?_
    rintro e w1 ⟨rfl, hb1⟩
    have H1 := Lib.hid (H0.out.next hb1)
    clear hb1
    go_wp2_with fail
    go_ret
    exact ⟨rfl, H1.out.below⟩
end Go.Proofs.YtilahcnpjbnjiaaGreatDoor
