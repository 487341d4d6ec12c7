/- The laws of layer 7: Of. -/
import Derived.Test.YtlefkmgcahpobaaDoorColonBack
import Derived.Test.YtlefkmgcahpobaaDoorColonOf2
import Derived.Test.YtlefkmgcahpobaaDoorHeld
namespace Go.Proofs.YtlefkmgcahpobaaDoor
set_option linter.unusedVariables false
set_option linter.unusedSimpArgs false
open Go.RowKit Go.Shelf Go.Proofs Go.OctetPlain Go.ColonPlain

/-- the law's state: two addresses and the eight numbers -/
structure LO (w W : World) (g0 g1 g2 : Nat) (x0 x1 x2 x3 x4 x5 x6 x7 : Int) (XA XB : Array Value) : Prop where
  ct : CT W
  below : Below w.heap.size w W
  l : Blk W g0 52 (arrI [x0, x1, x2, x3, x4, x5, x6, x7])
  a : Blk W g1 50 XA
  b : Blk W g2 50 XB
theorem LO.next {w W W' : World} {g0 g1 g2 : Nat} {x0 x1 x2 x3 x4 x5 x6 x7 : Int} {XA XB : Array Value} (h : LO w W g0 g1 g2 x0 x1 x2 x3 x4 x5 x6 x7 XA XB) (hb : Below W.heap.size W W') : LO w W' g0 g1 g2 x0 x1 x2 x3 x4 x5 x6 x7 XA XB :=
  ⟨h.ct.below hb, h.below.trans (hb.mono h.below.size), h.l.below hb h.l.lt, h.a.below hb h.a.lt, h.b.below hb h.b.lt⟩
theorem LO.drew {w W : World} {g0 g1 g2 : Nat} {x0 x1 x2 x3 x4 x5 x6 x7 : Int} {XA XB : Array Value} (h : LO w W g0 g1 g2 x0 x1 x2 x3 x4 x5 x6 x7 XA XB) : LO w W.drew g0 g1 g2 x0 x1 x2 x3 x4 x5 x6 x7 XA XB := h.next (Below.refl _ _).drew
theorem Blk.cellsV16 {w : World} {g : Nat} {t : TypeId} {x0 x1 x2 x3 x4 x5 x6 x7 x8 x9 x10 x11 x12 x13 x14 x15 : Value} (h : Blk w g t #[x0, x1, x2, x3, x4, x5, x6, x7, x8, x9, x10, x11, x12, x13, x14, x15]) : w.cell? ⟨g, 0, none⟩ = some x0 ∧ w.cell? ⟨g, 1, none⟩ = some x1 ∧ w.cell? ⟨g, 2, none⟩ = some x2 ∧ w.cell? ⟨g, 3, none⟩ = some x3 ∧ w.cell? ⟨g, 4, none⟩ = some x4 ∧ w.cell? ⟨g, 5, none⟩ = some x5 ∧ w.cell? ⟨g, 6, none⟩ = some x6 ∧ w.cell? ⟨g, 7, none⟩ = some x7 ∧ w.cell? ⟨g, 8, none⟩ = some x8 ∧ w.cell? ⟨g, 9, none⟩ = some x9 ∧ w.cell? ⟨g, 10, none⟩ = some x10 ∧ w.cell? ⟨g, 11, none⟩ = some x11 ∧ w.cell? ⟨g, 12, none⟩ = some x12 ∧ w.cell? ⟨g, 13, none⟩ = some x13 ∧ w.cell? ⟨g, 14, none⟩ = some x14 ∧ w.cell? ⟨g, 15, none⟩ = some x15 := ⟨h.cell 0, h.cell 1, h.cell 2, h.cell 3, h.cell 4, h.cell 5, h.cell 6, h.cell 7, h.cell 8, h.cell 9, h.cell 10, h.cell 11, h.cell 12, h.cell 13, h.cell 14, h.cell 15⟩
/-- the state before the two addresses are made -/
structure LB8 (w W : World) (g1 : Nat) (x0 x1 x2 x3 x4 x5 x6 x7 : Int) : Prop where
  ct : CT W
  below : Below w.heap.size w W
  l : Blk W g1 52 (arrI [x0, x1, x2, x3, x4, x5, x6, x7])
theorem LB8.next {w W W' : World} {g1 : Nat} {x0 x1 x2 x3 x4 x5 x6 x7 : Int} (h : LB8 w W g1 x0 x1 x2 x3 x4 x5 x6 x7) (hb : Below W.heap.size W W') : LB8 w W' g1 x0 x1 x2 x3 x4 x5 x6 x7 :=
  ⟨h.ct.below hb, h.below.trans (hb.mono h.below.size), h.l.below hb h.l.lt⟩

set_option maxRecDepth 100000 in
set_option maxHeartbeats 2000000 in
theorem law_of (L : List Int) (hL : L.length = 8) (hb : ∀ (k : Nat) (n : Int), L[k]? = some n → -9223372036854775808 ≤ n ∧ n ≤ 9223372036854775807) (w : World) (ht : CT w) :
    Calls Tryd.prog 11 #[.agg (arrI L)] w fun e w' => e = .returned (.bool true) ∧ Below w.heap.size w w' := by
  have hu16 := Tryd.underlying50
  have OA := Lib.hid fun W => colon_Of L hL hb W
  have OB := Lib.hid fun W => ref_Of L hL hb W
  obtain ⟨X, is, hX, hI, hlen, hgr⟩ : ∃ (X : List UInt8) (is : Bool), (of L).getD z16 = X ∧ (of L).isSome = is ∧ X.length = 16 ∧ (is = true → ints (groupsOf X) = L) := by
    cases hof : of L with
    | none => exact ⟨z16, false, rfl, rfl, rfl, fun h => by cases h⟩
    | some a => exact ⟨a, true, rfl, rfl, by rw [of_length _ _ hof, hL], fun _ => groups_of _ _ hof⟩
  rw [hX, hI] at OA OB
  have GA := Lib.hid fun W => colon_Groups X hlen W
  have q16 := eq_self hlen rfl
  have q8 := fun W => eq_ints (a := L) (b := L) hL hL W
  simp only [decide_true] at q8
  have kX := A16.of hlen
  clear hX hI
  generalize arrB X = XA at OA OB GA q16 kX
  obtain ⟨x0, x1, x2, x3, x4, x5, x6, x7, hx⟩ := list8 hL
  subst hx
  have eL : arrI [x0, x1, x2, x3, x4, x5, x6, x7] = #[.int .i64 x0, .int .i64 x1, .int .i64 x2, .int .i64 x3, .int .i64 x4, .int .i64 x5, .int .i64 x6, .int .i64 x7] := rfl
  have h0 : LB8 w (w.alloc (.cells (arrI [x0, x1, x2, x3, x4, x5, x6, x7]) 52)) w.heap.size x0 x1 x2 x3 x4 x5 x6 x7 := ⟨ht.below (belowA w _), belowA w _, Blk.new _ _ _⟩
  rw [eL] at h0 q8 OA OB ⊢
  have H0 := Lib.hid h0
  have KX := Lib.hid kX
  have HG := Lib.hid hgr
  clear h0 kX hgr ht hb
  have hi16 := KX.out.info
  go_enter Tryd.func11, Tryd.ntmps11
  go_wp2_with fail
  refine (law07_awake _ H0.out.ct).mono ?_
  rintro e w1 ⟨rfl, hb1⟩
  have H1 := Lib.hid (H0.out.next hb1)
  clear hb1
  go_wp2_with (refine wpList_load_want rfl _ _ rfl w.heap.size rfl _ #[.int .i64 x0, .int .i64 x1, .int .i64 x2, .int .i64 x3, .int .i64 x4, .int .i64 x5, .int .i64 x6, .int .i64 x7] (0, 0) _ H1.out.l Tryd.underlying52 rfl info8 ?_)
  refine (OA.out _).mono ?_
  rintro e w2 ⟨rfl, hb2⟩
  have H2 := Lib.hid ((H1.out.next hb2).next (belowA w2 (.cells XA 50)))
  have HA2 := Lib.hid (Blk.new w2 50 XA)
  clear hb2
  go_wp2_with (first
    | (refine wpList_store_new rfl _ _ _ rfl XA rfl rfl _ _ KX.out.info KX.out.size.symm KX.out.one ?_)
    | (refine wpList_load_want rfl _ _ rfl w.heap.size rfl _ #[.int .i64 x0, .int .i64 x1, .int .i64 x2, .int .i64 x3, .int .i64 x4, .int .i64 x5, .int .i64 x6, .int .i64 x7] (0, 0) _ H2.out.l Tryd.underlying52 rfl info8 ?_))
  refine (OB.out _).mono ?_
  rintro e w3 ⟨rfl, hb3⟩
  have H3 := (H2.out.next hb3).next (belowA w3 (.cells XA 50))
  have hlo : LO w (w3.alloc (.cells XA 50)) w.heap.size w2.heap.size w3.heap.size x0 x1 x2 x3 x4 x5 x6 x7 XA XA := ⟨H3.ct, H3.below, H3.l, (HA2.out.below hb3 HA2.out.lt).alloc _, Blk.new _ _ _⟩
  have HLO := Lib.hid hlo
  clear hb3 H3 hlo
  cases is
  · go_wp2_with (refine wpList_store_new rfl _ _ _ rfl XA rfl rfl _ _ KX.out.info KX.out.size.symm KX.out.one ?_)
    generalize w3.alloc (.cells XA 50) = w5 at HLO ⊢
    obtain ⟨y0, y1, y2, y3, y4, y5, y6, y7, y8, y9, y10, y11, y12, y13, y14, y15, rfl⟩ := arr16_ex KX.out.size
    obtain ⟨c0, c1, c2, c3, c4, c5, c6, c7, c8, c9, c10, c11, c12, c13, c14, c15⟩ := HLO.out.a.cellsV16
    obtain ⟨d0, d1, d2, d3, d4, d5, d6, d7, d8, d9, d10, d11, d12, d13, d14, d15⟩ := HLO.out.b.cellsV16
    go_quiet (fail)
    all_goals go_wp2_with fail
    all_goals go_ret
    all_goals exact ⟨rfl, below_drewN HLO.out.below _⟩
  · have hg := HG.out rfl
    rw [hg, eL] at GA
    have hu8 := Tryd.underlying52
    go_wp2_with (refine wpList_store_new rfl _ _ _ rfl XA rfl rfl _ _ KX.out.info KX.out.size.symm KX.out.one ?_)
    generalize w3.alloc (.cells XA 50) = w5 at HLO ⊢
    refine wp_region_held_drew (S := fun W => LO w W w.heap.size w2.heap.size w3.heap.size x0 x1 x2 x3 x4 x5 x6 x7 XA XA) (by kernel_rfl) HLO.out.drew (fun hHeld => ?_)
    refine wpAnyH_take (i := 0) rfl (by kernel_rfl) (by kernel_rfl) (by kernel_rfl) (fun _ _ _ h => h) (yieldsIf_load_row (by rfl) _ _ rfl (w2.heap.size) rfl _ (XA) _ (fun w h => h.a) hu16 rfl hi16) (by assumption) ?_
    simp only [Act.put, List.setIfInBounds_toArray, List.set_cons_zero, List.set_cons_succ, List.getElem_toArray, List.getElem_cons_zero, List.getElem_cons_succ]
    refine wpAnyH_take (i := 1) rfl (by kernel_rfl) (by kernel_rfl) (by kernel_rfl) (fun _ _ _ h => h) (yieldsIf_load_row (by rfl) _ _ rfl (w3.heap.size) rfl _ (XA) _ (fun w h => h.b) hu16 rfl hi16) (by assumption) ?_
    simp only [Act.put, List.setIfInBounds_toArray, List.set_cons_zero, List.set_cons_succ, List.getElem_toArray, List.getElem_cons_zero, List.getElem_cons_succ]
    refine wpAnyH_take (i := 2) (v := ?_) rfl (by kernel_rfl) (by kernel_rfl) (by kernel_rfl) (fun _ _ _ h => h) (Or.inl ⟨by rfl, ?_⟩) (by assumption) ?_
    rotate_left
    · intro w hSw; go_simp; try with_reducible rfl
    simp only [Act.put, List.setIfInBounds_toArray, List.set_cons_zero, List.set_cons_succ, List.getElem_toArray, List.getElem_cons_zero, List.getElem_cons_succ]
    refine wpAnyH_take (i := 3) (v := ?_) rfl (by kernel_rfl) (by kernel_rfl) (by kernel_rfl) (fun _ _ _ h => h) (Or.inl ⟨by rfl, ?_⟩) (by assumption) ?_
    rotate_left
    · intro w hSw; go_simp; try with_reducible rfl
    simp only [Act.put, List.setIfInBounds_toArray, List.set_cons_zero, List.set_cons_succ, List.getElem_toArray, List.getElem_cons_zero, List.getElem_cons_succ]
    refine wpAnyH_take (i := 4) (v := ?_) rfl (by kernel_rfl) (by kernel_rfl) (by kernel_rfl) (fun _ _ _ h => h) (Or.inl ⟨by rfl, ?_⟩) (by assumption) ?_
    rotate_left
    · intro w hSw; go_simp; try with_reducible rfl
    simp only [Act.put, List.setIfInBounds_toArray, List.set_cons_zero, List.set_cons_succ, List.getElem_toArray, List.getElem_cons_zero, List.getElem_cons_succ]
    refine wpAnyH_take (i := 5) (v := ?_) rfl (by kernel_rfl) (by kernel_rfl) (by kernel_rfl) (fun _ _ _ h => h) (Or.inl ⟨by rfl, ?_⟩) (by assumption) ?_
    rotate_left
    · intro w hSw; go_simp; try with_reducible rfl
    simp only [Act.put, List.setIfInBounds_toArray, List.set_cons_zero, List.set_cons_succ, List.getElem_toArray, List.getElem_cons_zero, List.getElem_cons_succ]
    refine wpAnyH_take (i := 6) (v := ?_) rfl (by kernel_rfl) (by kernel_rfl) (by kernel_rfl) (fun _ _ _ h => h) (Or.inl ⟨by rfl, ?_⟩) (by assumption) ?_
    rotate_left
    · intro w hSw; go_simp; try with_reducible rfl
    simp only [Act.put, List.setIfInBounds_toArray, List.set_cons_zero, List.set_cons_succ, List.getElem_toArray, List.getElem_cons_zero, List.getElem_cons_succ]
    refine wpAnyH_take (i := 7) (v := ?_) rfl (by kernel_rfl) (by kernel_rfl) (by kernel_rfl) (fun _ _ _ h => h) (Or.inl ⟨by rfl, ?_⟩) (by assumption) ?_
    rotate_left
    · intro w hSw; go_simp; try with_reducible rfl
    simp only [Act.put, List.setIfInBounds_toArray, List.set_cons_zero, List.set_cons_succ, List.getElem_toArray, List.getElem_cons_zero, List.getElem_cons_succ]
    refine wpAnyH_take (i := 8) (v := ?_) rfl (by kernel_rfl) (by kernel_rfl) (by kernel_rfl) (fun _ _ _ h => h) (Or.inl ⟨by rfl, ?_⟩) (by assumption) ?_
    rotate_left
    · intro w hSw; go_simp; try with_reducible rfl
    simp only [Act.put, List.setIfInBounds_toArray, List.set_cons_zero, List.set_cons_succ, List.getElem_toArray, List.getElem_cons_zero, List.getElem_cons_succ]
    refine wpAnyH_take (i := 9) (v := ?_) rfl (by kernel_rfl) (by kernel_rfl) (by kernel_rfl) (fun _ _ _ h => h) (Or.inl ⟨by rfl, ?_⟩) (by assumption) ?_
    rotate_left
    · intro w hSw; go_simp; try with_reducible rfl
    simp only [Act.put, List.setIfInBounds_toArray, List.set_cons_zero, List.set_cons_succ, List.getElem_toArray, List.getElem_cons_zero, List.getElem_cons_succ]
    refine wpAnyH_take (i := 10) (v := ?_) rfl (by kernel_rfl) (by kernel_rfl) (by kernel_rfl) (fun _ _ _ h => h) (Or.inl ⟨by rfl, ?_⟩) (by assumption) ?_
    rotate_left
    · intro w hSw; go_simp; try with_reducible rfl
    simp only [Act.put, List.setIfInBounds_toArray, List.set_cons_zero, List.set_cons_succ, List.getElem_toArray, List.getElem_cons_zero, List.getElem_cons_succ]
    refine wpAnyH_take (i := 11) (v := ?_) rfl (by kernel_rfl) (by kernel_rfl) (by kernel_rfl) (fun _ _ _ h => h) (Or.inl ⟨by rfl, ?_⟩) (by assumption) ?_
    rotate_left
    · intro w hSw; go_simp; try with_reducible rfl
    simp only [Act.put, List.setIfInBounds_toArray, List.set_cons_zero, List.set_cons_succ, List.getElem_toArray, List.getElem_cons_zero, List.getElem_cons_succ]
    refine wpAnyH_take (i := 12) rfl (by kernel_rfl) (by kernel_rfl) (by kernel_rfl) (fun _ _ _ h => h) (yieldsIf_load_row (by rfl) _ _ rfl (w2.heap.size) rfl _ (XA) _ (fun w h => h.a) hu16 rfl hi16) (by assumption) ?_
    simp only [Act.put, List.setIfInBounds_toArray, List.set_cons_zero, List.set_cons_succ, List.getElem_toArray, List.getElem_cons_zero, List.getElem_cons_succ]
    refine wpAnyH_take (i := 14) rfl (by kernel_rfl) (by kernel_rfl) (by kernel_rfl) (fun _ _ _ h => h) (yieldsIf_load_row (by rfl) _ _ rfl (w.heap.size) rfl _ (#[.int .i64 x0, .int .i64 x1, .int .i64 x2, .int .i64 x3, .int .i64 x4, .int .i64 x5, .int .i64 x6, .int .i64 x7]) _ (fun w h => h.l) hu8 rfl info8) (by assumption) ?_
    simp only [Act.put, List.setIfInBounds_toArray, List.set_cons_zero, List.set_cons_succ, List.getElem_toArray, List.getElem_cons_zero, List.getElem_cons_succ]
    refine held_step (i := 13) rfl (by kernel_rfl) (by rfl) (fun K hK => ?_)
    go_simp
    refine (GA.out _).mono ?_; rintro e w4 ⟨rfl, hb4⟩
    go_wp2_with fail
    refine hK.out _ _ (LO.next (by assumption) hb4) (fun hHeld => ?_)
    clear hK K
    try simp only [Act.put, List.setIfInBounds_toArray, List.set_cons_zero, List.set_cons_succ, List.getElem_toArray, List.getElem_cons_zero, List.getElem_cons_succ]
    refine wpAnyH_take (i := 15) (v := ?_) rfl (by kernel_rfl) (by kernel_rfl) (by kernel_rfl) (fun _ _ _ h => h) (Or.inl ⟨by rfl, ?_⟩) (by assumption) ?_
    rotate_left
    · intro w hSw; go_simp; try with_reducible rfl
    simp only [Act.put, List.setIfInBounds_toArray, List.set_cons_zero, List.set_cons_succ, List.getElem_toArray, List.getElem_cons_zero, List.getElem_cons_succ]
    refine wpAnyH_take (i := 16) (v := ?_) rfl (by kernel_rfl) (by kernel_rfl) (by kernel_rfl) (fun _ _ _ h => h) (Or.inl ⟨by rfl, ?_⟩) (by assumption) ?_
    rotate_left
    · intro w hSw; go_simp; try with_reducible rfl
    simp only [Act.put, List.setIfInBounds_toArray, List.set_cons_zero, List.set_cons_succ, List.getElem_toArray, List.getElem_cons_zero, List.getElem_cons_succ]
    refine wpAnyH_take (i := 17) (v := ?_) rfl (by kernel_rfl) (by kernel_rfl) (by kernel_rfl) (fun _ _ _ h => h) (Or.inl ⟨by rfl, ?_⟩) (by assumption) ?_
    rotate_left
    · intro w hSw; go_simp; try with_reducible rfl
    simp only [Act.put, List.setIfInBounds_toArray, List.set_cons_zero, List.set_cons_succ, List.getElem_toArray, List.getElem_cons_zero, List.getElem_cons_succ]
    refine wpAnyH_take (i := 18) (v := ?_) rfl (by kernel_rfl) (by kernel_rfl) (by kernel_rfl) (fun _ _ _ h => h) (Or.inl ⟨by rfl, ?_⟩) (by assumption) ?_
    rotate_left
    · intro w hSw; go_simp; try with_reducible rfl
    simp only [Act.put, List.setIfInBounds_toArray, List.set_cons_zero, List.set_cons_succ, List.getElem_toArray, List.getElem_cons_zero, List.getElem_cons_succ]
    refine wpAnyH_done (by kernel_rfl) ?_ _
    all_goals go_wp2_with fail
    all_goals go_ret
    all_goals exact ⟨rfl, LO.below (by assumption)⟩
end Go.Proofs.YtlefkmgcahpobaaDoor
