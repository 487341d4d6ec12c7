/- Layer 15: HopTells. -/
import Derived.Test.YtilahcnpjbnjiaaDoorHopLawP
namespace Go.Proofs.YtilahcnpjbnjiaaDoor
set_option linter.unusedVariables false
set_option linter.unusedSimpArgs false
open Go.RowKit Go.Shelf Go.Proofs Go.OctetPlain

/-- two hops, boxed -/
structure TS15 (w W : World) (a : Hp.Hop) (l1 r1 : Value) (b : Hp.Hop) (l2 r2 : Value) : Prop where
  k3 : HL W w.heap.size a l1 r1
  k4 : HL W (w.heap.size + 1) b l2 r2
  bel : Below w.heap.size w W
theorem TS15.next {w W W' : World} {a b : Hp.Hop} {l1 r1 l2 r2 : Value} (h : TS15 w W a l1 r1 b l2 r2) (hb : Below W.heap.size W W') : TS15 w W' a l1 r1 b l2 r2 := ⟨h.k3.next hb, h.k4.next hb, h.bel.trans (hb.mono h.bel.size)⟩
theorem TS15.drew {w W : World} {a b : Hp.Hop} {l1 r1 l2 r2 : Value} (h : TS15 w W a l1 r1 b l2 r2) : TS15 w W.drew a l1 r1 b l2 r2 := h.next (Below.refl W.heap.size W).drew
theorem TS15.lens {w W : World} {a b : Hp.Hop} {l1 r1 l2 r2 : Value} (h : TS15 w W a l1 r1 b l2 r2) : W.cell? ⟨w.heap.size, 1, none⟩ = some l1 ∧ W.cell? ⟨w.heap.size, 4, none⟩ = some r1 ∧ W.cell? ⟨w.heap.size + 1, 1, none⟩ = some l2 ∧ W.cell? ⟨w.heap.size + 1, 4, none⟩ = some r2 := ⟨h.k3.b.cell 1, h.k3.b.cell 4, h.k4.b.cell 1, h.k4.b.cell 4⟩
def RetGd (h : Hp.Hop) (k : Int) (R : List Int) (w : World) (e : Ending) (w' : World) : Prop := ∃ p5 c5 p6 c6, e = .returned (.agg #[.int .i64 h.op, .slice p5 h.labels.length c5, .int .i64 h.port, .int .i64 k, .slice p6 R.length c6, .bool h.pipe]) ∧ HopIs w' (Hp.guarded h k R) (.slice p5 h.labels.length c5) (.slice p6 R.length c6) ∧ Below w.heap.size w w' ∧ SlP (w.heap.size ≤ ·) w' 1 encI (.slice p5 h.labels.length c5) h.labels ∧ SlP (w.heap.size ≤ ·) w' 1 encI (.slice p6 R.length c6) R
theorem guard_any (h : Hp.Hop) (k : Int) (R : List Int) (hR : R.length ≤ 1073741824) (l r vr : Value) (w : World) (H : HopIs w h l r) (hvr : SlR w 1 encI vr R) : Calls Tryd.prog 14 #[.agg (hopA h l r), .int .i64 k, vr] w (RetGd h k R w) := by
  refine (hop_GuardedN h k R hR l r vr w H hvr).mono ?_
  rintro e w' ⟨l', r', rfl, hi, hb, s1, s2⟩
  have hl := hi.sl
  have hr := hi.sr
  obtain ⟨p1, c1, rfl, -, -, -⟩ := hl
  obtain ⟨p2, c2, rfl, -, -, -⟩ := hr
  exact ⟨p1, c1, p2, c2, rfl, hi, hb, s1, s2⟩
set_option maxRecDepth 100000 in
set_option maxHeartbeats 8000000 in
theorem law_tells15 (a b : Hp.Hop) (l1 r1 l2 r2 : Value) (bk : Int) (w : World) (ht : HT0 w) (HA : HopIs w a l1 r1) (HB : HopIs w b l2 r2) : Calls Tryd.prog 3 #[.agg (hopA a l1 r1), .agg (hopA b l2 r2), .int .i64 bk] w fun e w' => e = .returned (.bool true) ∧ Below w.heap.size w w' := by
  have AW : Hid (∀ W, Below w.heap.size w W → Calls Tryd.prog 7 #[] W fun e w' => e = .returned (.bool true) ∧ Below W.heap.size W w') := Lib.hid fun W hW => law_awake W (ht.next hW (Nat.le_refl _))
  have HT := Lib.hid ht
  have hl1 := HA.sl
  have hr1 := HA.sr
  have hl2 := HB.sl
  have hr2 := HB.sr
  obtain ⟨p1, c1, rfl, -, -, -⟩ := hl1
  obtain ⟨p2, c2, rfl, -, -, -⟩ := hr1
  obtain ⟨p3, c3, rfl, -, -, -⟩ := hl2
  obtain ⟨p4, c4, rfl, -, -, -⟩ := hr2
  clear ht
  have HB2 := Lib.hid fun o o' => ((belowA w o).alloc (by simp) o' : Below w.heap.size w ((w.alloc o).alloc o'))
  have TS0 : Hid (TS15 w ((w.alloc (.cells #[.int .i64 a.op, .slice p1 a.labels.length c1, .int .i64 a.port, .int .i64 a.backup, .slice p2 a.repair.length c2, .bool a.pipe] 24)).alloc (.cells #[.int .i64 b.op, .slice p3 b.labels.length c3, .int .i64 b.port, .int .i64 b.backup, .slice p4 b.repair.length c4, .bool b.pipe] 24)) a (.slice p1 a.labels.length c1) (.slice p2 a.repair.length c2) b (.slice p3 b.labels.length c3) (.slice p4 b.repair.length c4)) := by
    have h1 := (HL.newX HA).next (belowA _ (.cells #[.int .i64 b.op, .slice p3 b.labels.length c3, .int .i64 b.port, .int .i64 b.backup, .slice p4 b.repair.length c4, .bool b.pipe] 24))
    have h2 := HL.newX (HB.below (belowA w (.cells #[.int .i64 a.op, .slice p1 a.labels.length c1, .int .i64 a.port, .int .i64 a.backup, .slice p2 a.repair.length c2, .bool a.pipe] 24)) (Nat.le_refl _))
    rw [World.size_alloc] at h2
    exact Lib.hid ⟨h1, h2, HB2.out _ _⟩
  change Calls Tryd.prog _ #[.agg #[.int .i64 a.op, .slice p1 a.labels.length c1, .int .i64 a.port, .int .i64 a.backup, .slice p2 a.repair.length c2, .bool a.pipe], .agg #[.int .i64 b.op, .slice p3 b.labels.length c3, .int .i64 b.port, .int .i64 b.backup, .slice p4 b.repair.length c4, .bool b.pipe], _] w _
  by_cases n0 : 40 < a.labels.length
  · have m0 : decide (40 < (a.labels.length : Int)) = true := decide_eq_true (by omega)
    go_enter Tryd.func3, Tryd.ntmps3
    go_wp2_with fail
    refine (AW.out _ (HB2.out _ _)).mono ?_
    rintro e w1 ⟨rfl, b1⟩
    have T1 : Hid (TS15 w w1 a (.slice p1 a.labels.length c1) (.slice p2 a.repair.length c2) b (.slice p3 b.labels.length c3) (.slice p4 b.repair.length c4)) := Lib.hid (TS0.out.next b1)
    obtain ⟨d1, d4, e1, e4⟩ := T1.out.lens
    clear b1
    go_wp2_with fail
    go_ret
    exact ⟨rfl, T1.out.bel⟩
  have m0 : decide (40 < (a.labels.length : Int)) = false := decide_eq_false (by omega)
  have m0x : decide (40 < a.labels.length) = false := decide_eq_false (by omega)
  by_cases n1 : 40 < a.repair.length
  · have m1 : decide (40 < (a.repair.length : Int)) = true := decide_eq_true (by omega)
    go_enter Tryd.func3, Tryd.ntmps3
    go_wp2_with fail
    refine (AW.out _ (HB2.out _ _)).mono ?_
    rintro e w1 ⟨rfl, b1⟩
    have T1 : Hid (TS15 w w1 a (.slice p1 a.labels.length c1) (.slice p2 a.repair.length c2) b (.slice p3 b.labels.length c3) (.slice p4 b.repair.length c4)) := Lib.hid (TS0.out.next b1)
    obtain ⟨d1, d4, e1, e4⟩ := T1.out.lens
    clear b1
    go_wp2_with fail
    go_ret
    exact ⟨rfl, T1.out.bel⟩
  have m1 : decide (40 < (a.repair.length : Int)) = false := decide_eq_false (by omega)
  have m1x : decide (40 < a.repair.length) = false := decide_eq_false (by omega)
  by_cases n2 : 40 < b.labels.length
  · have m2 : decide (40 < (b.labels.length : Int)) = true := decide_eq_true (by omega)
    go_enter Tryd.func3, Tryd.ntmps3
    go_wp2_with fail
    refine (AW.out _ (HB2.out _ _)).mono ?_
    rintro e w1 ⟨rfl, b1⟩
    have T1 : Hid (TS15 w w1 a (.slice p1 a.labels.length c1) (.slice p2 a.repair.length c2) b (.slice p3 b.labels.length c3) (.slice p4 b.repair.length c4)) := Lib.hid (TS0.out.next b1)
    obtain ⟨d1, d4, e1, e4⟩ := T1.out.lens
    clear b1
    go_wp2_with fail
    go_ret
    exact ⟨rfl, T1.out.bel⟩
  have m2 : decide (40 < (b.labels.length : Int)) = false := decide_eq_false (by omega)
  have m2x : decide (40 < b.labels.length) = false := decide_eq_false (by omega)
  by_cases n3 : 40 < b.repair.length
  · have m3 : decide (40 < (b.repair.length : Int)) = true := decide_eq_true (by omega)
    go_enter Tryd.func3, Tryd.ntmps3
    go_wp2_with fail
    refine (AW.out _ (HB2.out _ _)).mono ?_
    rintro e w1 ⟨rfl, b1⟩
    have T1 : Hid (TS15 w w1 a (.slice p1 a.labels.length c1) (.slice p2 a.repair.length c2) b (.slice p3 b.labels.length c3) (.slice p4 b.repair.length c4)) := Lib.hid (TS0.out.next b1)
    obtain ⟨d1, d4, e1, e4⟩ := T1.out.lens
    clear b1
    go_wp2_with fail
    go_ret
    exact ⟨rfl, T1.out.bel⟩
  have m3 : decide (40 < (b.repair.length : Int)) = false := decide_eq_false (by omega)
  have m3x : decide (40 < b.repair.length) = false := decide_eq_false (by omega)
  go_enter Tryd.func3, Tryd.ntmps3
  go_wp2_with fail
  refine (AW.out _ (HB2.out _ _)).mono ?_
  rintro e w1 ⟨rfl, b1⟩
  have T1 : Hid (TS15 w w1 a (.slice p1 a.labels.length c1) (.slice p2 a.repair.length c2) b (.slice p3 b.labels.length c3) (.slice p4 b.repair.length c4)) := Lib.hid (TS0.out.next b1)
  obtain ⟨d1, d4, e1, e4⟩ := T1.out.lens
  clear b1
  have CR := Lib.hid (ref_Check a T1.out.k3.h.n1 T1.out.k3.h.n2 _ _ w1 T1.out.k3.h.sl T1.out.k3.h.sr)
  have C1 : Hid (∀ W, TS15 w W a (.slice p1 a.labels.length c1) (.slice p2 a.repair.length c2) b (.slice p3 b.labels.length c3) (.slice p4 b.repair.length c4) → Calls Tryd.prog 9 #[.agg (hopA a (.slice p1 a.labels.length c1) (.slice p2 a.repair.length c2))] W fun e w' => e = .returned (.int .i64 (Hp.checkR a)) ∧ Below W.heap.size W w') := Lib.hid fun W h => hop_Check a h.k3.h.n1 h.k3.h.n2 _ _ W h.k3.h.sl h.k3.h.sr
  have C2 : Hid (∀ W, TS15 w W a (.slice p1 a.labels.length c1) (.slice p2 a.repair.length c2) b (.slice p3 b.labels.length c3) (.slice p4 b.repair.length c4) → Calls Tryd.prog 10 #[.agg (hopA a (.slice p1 a.labels.length c1) (.slice p2 a.repair.length c2)), .agg (hopA b (.slice p3 b.labels.length c3) (.slice p4 b.repair.length c4))] W fun e w' => e = .returned (.bool (decide (a = b))) ∧ Below W.heap.size W w') := Lib.hid fun W h => hop_Same a b _ _ _ _ W h.k3.h h.k4.h
  have C3 : Hid (∀ W, TS15 w W a (.slice p1 a.labels.length c1) (.slice p2 a.repair.length c2) b (.slice p3 b.labels.length c3) (.slice p4 b.repair.length c4) → Calls Tryd.prog 11 #[.agg (hopA a (.slice p1 a.labels.length c1) (.slice p2 a.repair.length c2)), .agg (hopA b (.slice p3 b.labels.length c3) (.slice p4 b.repair.length c4))] W fun e w' => e = .returned (.bool (decide (a = b))) ∧ Below W.heap.size W w') := Lib.hid fun W h => ref_Same15 a b _ _ _ _ W h.k3.h h.k4.h
  have C4' : Hid (Hp.checkR a = 0 → ∀ W, TS15 w W a (.slice p1 a.labels.length c1) (.slice p2 a.repair.length c2) b (.slice p3 b.labels.length c3) (.slice p4 b.repair.length c4) → Calls Tryd.prog 12 #[.agg (hopA a (.slice p1 a.labels.length c1) (.slice p2 a.repair.length c2))] W fun e w' => e = .returned (.string (str (Hp.showR a))) ∧ Below W.heap.size W w') := Lib.hid fun hc W h => hop_Show a ((Hp.check_iff a).1 hc) _ _ W (HT.out.next h.bel (Nat.le_refl _)).tabs h.k3.h
  have C5' : Hid (Hp.checkR a = 0 → ∀ W, TS15 w W a (.slice p1 a.labels.length c1) (.slice p2 a.repair.length c2) b (.slice p3 b.labels.length c3) (.slice p4 b.repair.length c4) → Calls Tryd.prog 13 #[.agg (hopA a (.slice p1 a.labels.length c1) (.slice p2 a.repair.length c2))] W fun e w' => e = .returned (.string (str (Hp.showR a))) ∧ Below W.heap.size W w') := Lib.hid fun hc W h => ref_Show15 a ((Hp.check_iff a).1 hc) _ _ W h.k3.h
  have GU : Hid (∀ W, TS15 w W a (.slice p1 a.labels.length c1) (.slice p2 a.repair.length c2) b (.slice p3 b.labels.length c3) (.slice p4 b.repair.length c4) → Calls Tryd.prog 14 #[.agg (hopA a (.slice p1 a.labels.length c1) (.slice p2 a.repair.length c2)), .int .i64 bk, .slice p4 b.repair.length c4] W (RetGd a bk b.repair W)) := Lib.hid fun W h => guard_any a bk b.repair (by omega) _ _ _ W h.k3.h h.k4.h.sr
  have HAS := Lib.hid (And.intro HA.n1 HA.sl)
  have HBS := Lib.hid (And.intro HB.n2 HB.sr)
  clear HA HB AW HB2 TS0 HT
  generalize Hp.checkR a = ck at *
  generalize Hp.showR a = sh at *
  generalize decide (a = b) = sm at *
  go_wp2_with (refine wpListH_load_want rfl _ _ rfl w.heap.size rfl _ (hopA a (.slice p1 a.labels.length c1) (.slice p2 a.repair.length c2)) (0, 0) _ T1.out.k3.b Tryd.underlying24 rfl infoHop ?_)
  refine CR.out.mono ?_
  rintro e w2 ⟨rfl, b2⟩
  have T2 : Hid (TS15 w w2 a (.slice p1 a.labels.length c1) (.slice p2 a.repair.length c2) b (.slice p3 b.labels.length c3) (.slice p4 b.repair.length c4)) := Lib.hid (T1.out.next b2)
  clear b2 d1 d4 e1 e4 T1 CR
  go_upto_region 7 with fail
  go_cut [60] from 37 to 60 (fun s60 wx => s60 = .bool false ∧ Hid (TS15 w wx a (.slice p1 a.labels.length c1) (.slice p2 a.repair.length c2) b (.slice p3 b.labels.length c3) (.slice p4 b.repair.length c4)))
  case first =>
    by_cases hck : ck = 0
    · subst hck
      have C4 := Lib.hid (C4'.out (by trivial))
      have C5 := Lib.hid (C5'.out (by trivial))
      go_wp2_with fail
      refine wp_region_held_drew (S := fun W => TS15 w W a (.slice p1 a.labels.length c1) (.slice p2 a.repair.length c2) b (.slice p3 b.labels.length c3) (.slice p4 b.repair.length c4)) (by kernel_rfl) T2.out.drew (fun hHeld => ?_)
      refine wpAnyH_take (i := 0) rfl (by kernel_rfl) (by kernel_rfl) (by kernel_rfl) (fun _ _ _ h => h) (yieldsIf_load_row (by rfl) _ _ rfl (w.heap.size) rfl _ (hopA a (.slice p1 a.labels.length c1) (.slice p2 a.repair.length c2)) _ (fun w h => h.k3.b) Tryd.underlying24 rfl infoHop) (by assumption) ?_
      simp only [Act.put, List.setIfInBounds_toArray, List.set_cons_zero, List.set_cons_succ, List.getElem_toArray, List.getElem_cons_zero, List.getElem_cons_succ]
      refine wpAnyH_take (i := 2) (v := ?_) rfl (by kernel_rfl) (by kernel_rfl) (by kernel_rfl) (fun _ _ _ h => h) (Or.inl ⟨by rfl, ?_⟩) (by assumption) ?_
      rotate_left
      · intro w hSw; go_simp; try with_reducible rfl
      simp only [Act.put, List.setIfInBounds_toArray, List.set_cons_zero, List.set_cons_succ, List.getElem_toArray, List.getElem_cons_zero, List.getElem_cons_succ]
      refine held_step (i := 1) rfl (by kernel_rfl) (by rfl) (fun K hK => ?_)
      go_simp
      refine (C1.out _ (by assumption)).mono ?_; rintro e v1 ⟨rfl, hc1⟩
      go_wp2_with fail
      refine hK.out _ _ (TS15.next (by assumption) hc1) (fun hHeld => ?_)
      clear hK K
      try simp only [Act.put, List.setIfInBounds_toArray, List.set_cons_zero, List.set_cons_succ, List.getElem_toArray, List.getElem_cons_zero, List.getElem_cons_succ]
      refine wpAnyH_take (i := 3) (v := .bool false) rfl (by kernel_rfl) (by kernel_rfl) (by kernel_rfl) (fun _ _ _ h => h) (Or.inl ⟨by rfl, ?_⟩) (by assumption) ?_
      · intro w hSw; go_simp; try (simp)
      simp only [Act.put, List.setIfInBounds_toArray, List.set_cons_zero, List.set_cons_succ, List.getElem_toArray, List.getElem_cons_zero, List.getElem_cons_succ]
      refine wpAnyH_take (i := 4) (v := ?_) rfl (by kernel_rfl) (by kernel_rfl) (by kernel_rfl) (fun _ _ _ h => h) (Or.inl ⟨by rfl, ?_⟩) (by assumption) ?_
      rotate_left
      · intro w hSw; go_simp; try with_reducible rfl
      simp only [Act.put, List.setIfInBounds_toArray, List.set_cons_zero, List.set_cons_succ, List.getElem_toArray, List.getElem_cons_zero, List.getElem_cons_succ]
      refine wpAnyH_take (i := 5) rfl (by kernel_rfl) (by kernel_rfl) (by kernel_rfl) (fun _ _ _ h => h) (yieldsIf_load_row (by rfl) _ _ rfl (w.heap.size) rfl _ (hopA a (.slice p1 a.labels.length c1) (.slice p2 a.repair.length c2)) _ (fun w h => h.k3.b) Tryd.underlying24 rfl infoHop) (by assumption) ?_
      simp only [Act.put, List.setIfInBounds_toArray, List.set_cons_zero, List.set_cons_succ, List.getElem_toArray, List.getElem_cons_zero, List.getElem_cons_succ]
      refine wpAnyH_take (i := 6) rfl (by kernel_rfl) (by kernel_rfl) (by kernel_rfl) (fun _ _ _ h => h) (yieldsIf_load_row (by rfl) _ _ rfl (w.heap.size + 1) rfl _ (hopA b (.slice p3 b.labels.length c3) (.slice p4 b.repair.length c4)) _ (fun w h => h.k4.b) Tryd.underlying24 rfl infoHop) (by assumption) ?_
      simp only [Act.put, List.setIfInBounds_toArray, List.set_cons_zero, List.set_cons_succ, List.getElem_toArray, List.getElem_cons_zero, List.getElem_cons_succ]
      refine wpAnyH_take (i := 8) rfl (by kernel_rfl) (by kernel_rfl) (by kernel_rfl) (fun _ _ _ h => h) (yieldsIf_load_row (by rfl) _ _ rfl (w.heap.size) rfl _ (hopA a (.slice p1 a.labels.length c1) (.slice p2 a.repair.length c2)) _ (fun w h => h.k3.b) Tryd.underlying24 rfl infoHop) (by assumption) ?_
      simp only [Act.put, List.setIfInBounds_toArray, List.set_cons_zero, List.set_cons_succ, List.getElem_toArray, List.getElem_cons_zero, List.getElem_cons_succ]
      refine wpAnyH_take (i := 9) rfl (by kernel_rfl) (by kernel_rfl) (by kernel_rfl) (fun _ _ _ h => h) (yieldsIf_load_row (by rfl) _ _ rfl (w.heap.size + 1) rfl _ (hopA b (.slice p3 b.labels.length c3) (.slice p4 b.repair.length c4)) _ (fun w h => h.k4.b) Tryd.underlying24 rfl infoHop) (by assumption) ?_
      simp only [Act.put, List.setIfInBounds_toArray, List.set_cons_zero, List.set_cons_succ, List.getElem_toArray, List.getElem_cons_zero, List.getElem_cons_succ]
      refine held_step (i := 7) rfl (by kernel_rfl) (by rfl) (fun K hK => ?_)
      go_simp
      refine (C2.out _ (by assumption)).mono ?_; rintro e v2 ⟨rfl, hc2⟩
      go_wp2_with fail
      refine hK.out _ _ (TS15.next (by assumption) hc2) (fun hHeld => ?_)
      clear hK K
      try simp only [Act.put, List.setIfInBounds_toArray, List.set_cons_zero, List.set_cons_succ, List.getElem_toArray, List.getElem_cons_zero, List.getElem_cons_succ]
      refine held_step (i := 10) rfl (by kernel_rfl) (by rfl) (fun K hK => ?_)
      go_simp
      refine (C3.out _ (by assumption)).mono ?_; rintro e v3 ⟨rfl, hc3⟩
      go_wp2_with fail
      refine hK.out _ _ (TS15.next (by assumption) hc3) (fun hHeld => ?_)
      clear hK K
      try simp only [Act.put, List.setIfInBounds_toArray, List.set_cons_zero, List.set_cons_succ, List.getElem_toArray, List.getElem_cons_zero, List.getElem_cons_succ]
      refine wpAnyH_take (i := 11) (v := .bool false) rfl (by kernel_rfl) (by kernel_rfl) (by kernel_rfl) (fun _ _ _ h => h) (Or.inl ⟨by rfl, ?_⟩) (by assumption) ?_
      · intro w hSw; go_simp; try (simp)
      simp only [Act.put, List.setIfInBounds_toArray, List.set_cons_zero, List.set_cons_succ, List.getElem_toArray, List.getElem_cons_zero, List.getElem_cons_succ]
      refine wpAnyH_take (i := 12) (v := ?_) rfl (by kernel_rfl) (by kernel_rfl) (by kernel_rfl) (fun _ _ _ h => h) (Or.inl ⟨by rfl, ?_⟩) (by assumption) ?_
      rotate_left
      · intro w hSw; go_simp; try with_reducible rfl
      simp only [Act.put, List.setIfInBounds_toArray, List.set_cons_zero, List.set_cons_succ, List.getElem_toArray, List.getElem_cons_zero, List.getElem_cons_succ]
      refine wpAnyH_take (i := 13) (v := ?_) rfl (by kernel_rfl) (by kernel_rfl) (by kernel_rfl) (fun _ _ _ h => h) (Or.inl ⟨by rfl, ?_⟩) (by assumption) ?_
      rotate_left
      · intro w hSw; go_simp; try with_reducible rfl
      simp only [Act.put, List.setIfInBounds_toArray, List.set_cons_zero, List.set_cons_succ, List.getElem_toArray, List.getElem_cons_zero, List.getElem_cons_succ]
      refine wpAnyH_take (i := 14) (v := ?_) rfl (by kernel_rfl) (by kernel_rfl) (by kernel_rfl) (fun _ _ _ h => h) (Or.inl ⟨by rfl, ?_⟩) (by assumption) ?_
      rotate_left
      · intro w hSw; go_simp; try with_reducible rfl
      simp only [Act.put, List.setIfInBounds_toArray, List.set_cons_zero, List.set_cons_succ, List.getElem_toArray, List.getElem_cons_zero, List.getElem_cons_succ]
      refine wpAnyH_take (i := 15) (v := ?_) rfl (by kernel_rfl) (by kernel_rfl) (by kernel_rfl) (fun _ _ _ h => h) (Or.inl ⟨by rfl, ?_⟩) (by assumption) ?_
      rotate_left
      · intro w hSw; go_simp; try with_reducible rfl
      simp only [Act.put, List.setIfInBounds_toArray, List.set_cons_zero, List.set_cons_succ, List.getElem_toArray, List.getElem_cons_zero, List.getElem_cons_succ]
      refine wpAnyH_take (i := 16) (v := ?_) rfl (by kernel_rfl) (by kernel_rfl) (by kernel_rfl) (fun _ _ _ h => h) (Or.inl ⟨by rfl, ?_⟩) (by assumption) ?_
      rotate_left
      · intro w hSw; go_simp; try with_reducible rfl
      simp only [Act.put, List.setIfInBounds_toArray, List.set_cons_zero, List.set_cons_succ, List.getElem_toArray, List.getElem_cons_zero, List.getElem_cons_succ]
      refine wpAnyH_take (i := 17) rfl (by kernel_rfl) (by kernel_rfl) (by kernel_rfl) (fun _ _ _ h => h) (yieldsIf_load_row (by rfl) _ _ rfl (w.heap.size) rfl _ (hopA a (.slice p1 a.labels.length c1) (.slice p2 a.repair.length c2)) _ (fun w h => h.k3.b) Tryd.underlying24 rfl infoHop) (by assumption) ?_
      simp only [Act.put, List.setIfInBounds_toArray, List.set_cons_zero, List.set_cons_succ, List.getElem_toArray, List.getElem_cons_zero, List.getElem_cons_succ]
      refine wpAnyH_take (i := 19) rfl (by kernel_rfl) (by kernel_rfl) (by kernel_rfl) (fun _ _ _ h => h) (yieldsIf_load_row (by rfl) _ _ rfl (w.heap.size) rfl _ (hopA a (.slice p1 a.labels.length c1) (.slice p2 a.repair.length c2)) _ (fun w h => h.k3.b) Tryd.underlying24 rfl infoHop) (by assumption) ?_
      simp only [Act.put, List.setIfInBounds_toArray, List.set_cons_zero, List.set_cons_succ, List.getElem_toArray, List.getElem_cons_zero, List.getElem_cons_succ]
      refine held_step (i := 18) rfl (by kernel_rfl) (by rfl) (fun K hK => ?_)
      go_simp
      refine (C4.out _ (by assumption)).mono ?_; rintro e v4 ⟨rfl, hc4⟩
      go_wp2_with fail
      refine hK.out _ _ (TS15.next (by assumption) hc4) (fun hHeld => ?_)
      clear hK K
      try simp only [Act.put, List.setIfInBounds_toArray, List.set_cons_zero, List.set_cons_succ, List.getElem_toArray, List.getElem_cons_zero, List.getElem_cons_succ]
      refine held_step (i := 20) rfl (by kernel_rfl) (by rfl) (fun K hK => ?_)
      go_simp
      refine (C5.out _ (by assumption)).mono ?_; rintro e v5 ⟨rfl, hc5⟩
      go_wp2_with fail
      refine hK.out _ _ (TS15.next (by assumption) hc5) (fun hHeld => ?_)
      clear hK K
      try simp only [Act.put, List.setIfInBounds_toArray, List.set_cons_zero, List.set_cons_succ, List.getElem_toArray, List.getElem_cons_zero, List.getElem_cons_succ]
      refine wpAnyH_take (i := 21) (v := .bool false) rfl (by kernel_rfl) (by kernel_rfl) (by kernel_rfl) (fun _ _ _ h => h) (Or.inl ⟨by rfl, ?_⟩) (by assumption) ?_
      · intro w hSw; go_simp; try (simp)
      simp only [Act.put, List.setIfInBounds_toArray, List.set_cons_zero, List.set_cons_succ, List.getElem_toArray, List.getElem_cons_zero, List.getElem_cons_succ]
      refine wpAnyH_take (i := 22) (v := ?_) rfl (by kernel_rfl) (by kernel_rfl) (by kernel_rfl) (fun _ _ _ h => h) (Or.inl ⟨by rfl, ?_⟩) (by assumption) ?_
      rotate_left
      · intro w hSw; go_simp; try with_reducible rfl
      simp only [Act.put, List.setIfInBounds_toArray, List.set_cons_zero, List.set_cons_succ, List.getElem_toArray, List.getElem_cons_zero, List.getElem_cons_succ]
      refine wpAnyH_take (i := 23) (v := ?_) rfl (by kernel_rfl) (by kernel_rfl) (by kernel_rfl) (fun _ _ _ h => h) (Or.inl ⟨by rfl, ?_⟩) (by assumption) ?_
      rotate_left
      · intro w hSw; go_simp; try with_reducible rfl
      simp only [Act.put, List.setIfInBounds_toArray, List.set_cons_zero, List.set_cons_succ, List.getElem_toArray, List.getElem_cons_zero, List.getElem_cons_succ]
      refine wpAnyH_done (by kernel_rfl) ?_ _
      go_wp2_with fail
      go_meet
      exact ⟨rfl, Lib.hid (by assumption)⟩
    · have hne : (ck == 0) = false := by simpa using hck
      clear hck
      go_wp2_with fail
      refine wp_region_held_drew (S := fun W => TS15 w W a (.slice p1 a.labels.length c1) (.slice p2 a.repair.length c2) b (.slice p3 b.labels.length c3) (.slice p4 b.repair.length c4)) (by kernel_rfl) T2.out.drew (fun hHeld => ?_)
      refine wpAnyH_take (i := 0) rfl (by kernel_rfl) (by kernel_rfl) (by kernel_rfl) (fun _ _ _ h => h) (yieldsIf_load_row (by rfl) _ _ rfl (w.heap.size) rfl _ (hopA a (.slice p1 a.labels.length c1) (.slice p2 a.repair.length c2)) _ (fun w h => h.k3.b) Tryd.underlying24 rfl infoHop) (by assumption) ?_
      simp only [Act.put, List.setIfInBounds_toArray, List.set_cons_zero, List.set_cons_succ, List.getElem_toArray, List.getElem_cons_zero, List.getElem_cons_succ]
      refine wpAnyH_take (i := 2) (v := ?_) rfl (by kernel_rfl) (by kernel_rfl) (by kernel_rfl) (fun _ _ _ h => h) (Or.inl ⟨by rfl, ?_⟩) (by assumption) ?_
      rotate_left
      · intro w hSw; go_simp; try with_reducible rfl
      simp only [Act.put, List.setIfInBounds_toArray, List.set_cons_zero, List.set_cons_succ, List.getElem_toArray, List.getElem_cons_zero, List.getElem_cons_succ]
      refine held_step (i := 1) rfl (by kernel_rfl) (by rfl) (fun K hK => ?_)
      go_simp
      refine (C1.out _ (by assumption)).mono ?_; rintro e v1 ⟨rfl, hc1⟩
      go_wp2_with fail
      refine hK.out _ _ (TS15.next (by assumption) hc1) (fun hHeld => ?_)
      clear hK K
      try simp only [Act.put, List.setIfInBounds_toArray, List.set_cons_zero, List.set_cons_succ, List.getElem_toArray, List.getElem_cons_zero, List.getElem_cons_succ]
      refine wpAnyH_take (i := 3) (v := .bool false) rfl (by kernel_rfl) (by kernel_rfl) (by kernel_rfl) (fun _ _ _ h => h) (Or.inl ⟨by rfl, ?_⟩) (by assumption) ?_
      · intro w hSw; go_simp; try (simp)
      simp only [Act.put, List.setIfInBounds_toArray, List.set_cons_zero, List.set_cons_succ, List.getElem_toArray, List.getElem_cons_zero, List.getElem_cons_succ]
      refine wpAnyH_take (i := 4) (v := ?_) rfl (by kernel_rfl) (by kernel_rfl) (by kernel_rfl) (fun _ _ _ h => h) (Or.inl ⟨by rfl, ?_⟩) (by assumption) ?_
      rotate_left
      · intro w hSw; go_simp; try with_reducible rfl
      simp only [Act.put, List.setIfInBounds_toArray, List.set_cons_zero, List.set_cons_succ, List.getElem_toArray, List.getElem_cons_zero, List.getElem_cons_succ]
      refine wpAnyH_take (i := 5) rfl (by kernel_rfl) (by kernel_rfl) (by kernel_rfl) (fun _ _ _ h => h) (yieldsIf_load_row (by rfl) _ _ rfl (w.heap.size) rfl _ (hopA a (.slice p1 a.labels.length c1) (.slice p2 a.repair.length c2)) _ (fun w h => h.k3.b) Tryd.underlying24 rfl infoHop) (by assumption) ?_
      simp only [Act.put, List.setIfInBounds_toArray, List.set_cons_zero, List.set_cons_succ, List.getElem_toArray, List.getElem_cons_zero, List.getElem_cons_succ]
      refine wpAnyH_take (i := 6) rfl (by kernel_rfl) (by kernel_rfl) (by kernel_rfl) (fun _ _ _ h => h) (yieldsIf_load_row (by rfl) _ _ rfl (w.heap.size + 1) rfl _ (hopA b (.slice p3 b.labels.length c3) (.slice p4 b.repair.length c4)) _ (fun w h => h.k4.b) Tryd.underlying24 rfl infoHop) (by assumption) ?_
      simp only [Act.put, List.setIfInBounds_toArray, List.set_cons_zero, List.set_cons_succ, List.getElem_toArray, List.getElem_cons_zero, List.getElem_cons_succ]
      refine wpAnyH_take (i := 8) rfl (by kernel_rfl) (by kernel_rfl) (by kernel_rfl) (fun _ _ _ h => h) (yieldsIf_load_row (by rfl) _ _ rfl (w.heap.size) rfl _ (hopA a (.slice p1 a.labels.length c1) (.slice p2 a.repair.length c2)) _ (fun w h => h.k3.b) Tryd.underlying24 rfl infoHop) (by assumption) ?_
      simp only [Act.put, List.setIfInBounds_toArray, List.set_cons_zero, List.set_cons_succ, List.getElem_toArray, List.getElem_cons_zero, List.getElem_cons_succ]
      refine wpAnyH_take (i := 9) rfl (by kernel_rfl) (by kernel_rfl) (by kernel_rfl) (fun _ _ _ h => h) (yieldsIf_load_row (by rfl) _ _ rfl (w.heap.size + 1) rfl _ (hopA b (.slice p3 b.labels.length c3) (.slice p4 b.repair.length c4)) _ (fun w h => h.k4.b) Tryd.underlying24 rfl infoHop) (by assumption) ?_
      simp only [Act.put, List.setIfInBounds_toArray, List.set_cons_zero, List.set_cons_succ, List.getElem_toArray, List.getElem_cons_zero, List.getElem_cons_succ]
      refine held_step (i := 7) rfl (by kernel_rfl) (by rfl) (fun K hK => ?_)
      go_simp
      refine (C2.out _ (by assumption)).mono ?_; rintro e v2 ⟨rfl, hc2⟩
      go_wp2_with fail
      refine hK.out _ _ (TS15.next (by assumption) hc2) (fun hHeld => ?_)
      clear hK K
      try simp only [Act.put, List.setIfInBounds_toArray, List.set_cons_zero, List.set_cons_succ, List.getElem_toArray, List.getElem_cons_zero, List.getElem_cons_succ]
      refine held_step (i := 10) rfl (by kernel_rfl) (by rfl) (fun K hK => ?_)
      go_simp
      refine (C3.out _ (by assumption)).mono ?_; rintro e v3 ⟨rfl, hc3⟩
      go_wp2_with fail
      refine hK.out _ _ (TS15.next (by assumption) hc3) (fun hHeld => ?_)
      clear hK K
      try simp only [Act.put, List.setIfInBounds_toArray, List.set_cons_zero, List.set_cons_succ, List.getElem_toArray, List.getElem_cons_zero, List.getElem_cons_succ]
      refine wpAnyH_take (i := 11) (v := .bool false) rfl (by kernel_rfl) (by kernel_rfl) (by kernel_rfl) (fun _ _ _ h => h) (Or.inl ⟨by rfl, ?_⟩) (by assumption) ?_
      · intro w hSw; go_simp; try (simp)
      simp only [Act.put, List.setIfInBounds_toArray, List.set_cons_zero, List.set_cons_succ, List.getElem_toArray, List.getElem_cons_zero, List.getElem_cons_succ]
      refine wpAnyH_take (i := 12) (v := ?_) rfl (by kernel_rfl) (by kernel_rfl) (by kernel_rfl) (fun _ _ _ h => h) (Or.inl ⟨by rfl, ?_⟩) (by assumption) ?_
      rotate_left
      · intro w hSw; go_simp; try with_reducible rfl
      simp only [Act.put, List.setIfInBounds_toArray, List.set_cons_zero, List.set_cons_succ, List.getElem_toArray, List.getElem_cons_zero, List.getElem_cons_succ]
      refine wpAnyH_take (i := 13) (v := ?_) rfl (by kernel_rfl) (by kernel_rfl) (by kernel_rfl) (fun _ _ _ h => h) (Or.inl ⟨by rfl, ?_⟩) (by assumption) ?_
      rotate_left
      · intro w hSw; go_simp; try with_reducible rfl
      simp only [Act.put, List.setIfInBounds_toArray, List.set_cons_zero, List.set_cons_succ, List.getElem_toArray, List.getElem_cons_zero, List.getElem_cons_succ]
      refine wpAnyH_take (i := 14) (v := ?_) rfl (by kernel_rfl) (by kernel_rfl) (by kernel_rfl) (fun _ _ _ h => h) (Or.inl ⟨by rfl, ?_⟩) (by assumption) ?_
      rotate_left
      · intro w hSw; go_simp; try with_reducible rfl
      simp only [Act.put, List.setIfInBounds_toArray, List.set_cons_zero, List.set_cons_succ, List.getElem_toArray, List.getElem_cons_zero, List.getElem_cons_succ]
      refine wpAnyH_take (i := 15) (v := .bool false) rfl (by kernel_rfl) (by kernel_rfl) (by kernel_rfl) (fun _ _ _ h => h) (Or.inl ⟨by rfl, ?_⟩) (by assumption) ?_
      · intro w hSw; go_simp; try (exact hne)
      simp only [Act.put, List.setIfInBounds_toArray, List.set_cons_zero, List.set_cons_succ, List.getElem_toArray, List.getElem_cons_zero, List.getElem_cons_succ]
      refine wpAnyH_take (i := 16) (v := ?_) rfl (by kernel_rfl) (by kernel_rfl) (by kernel_rfl) (fun _ _ _ h => h) (Or.inl ⟨by rfl, ?_⟩) (by assumption) ?_
      rotate_left
      · intro w hSw; go_simp; try with_reducible rfl
      simp only [Act.put, List.setIfInBounds_toArray, List.set_cons_zero, List.set_cons_succ, List.getElem_toArray, List.getElem_cons_zero, List.getElem_cons_succ]
      refine wpAnyH_take (i := 17) rfl (by kernel_rfl) (by kernel_rfl) (by kernel_rfl) (fun _ _ _ h => h) (yieldsIf_off (by rfl)) (by assumption) ?_
      simp only [Act.put, List.setIfInBounds_toArray, List.set_cons_zero, List.set_cons_succ, List.getElem_toArray, List.getElem_cons_zero, List.getElem_cons_succ]
      refine wpAnyH_take (i := 18) rfl (by kernel_rfl) (by kernel_rfl) (by kernel_rfl) (fun _ _ _ h => h) (yieldsIf_off (by rfl)) (by assumption) ?_
      simp only [Act.put, List.setIfInBounds_toArray, List.set_cons_zero, List.set_cons_succ, List.getElem_toArray, List.getElem_cons_zero, List.getElem_cons_succ]
      refine wpAnyH_take (i := 19) rfl (by kernel_rfl) (by kernel_rfl) (by kernel_rfl) (fun _ _ _ h => h) (yieldsIf_off (by rfl)) (by assumption) ?_
      simp only [Act.put, List.setIfInBounds_toArray, List.set_cons_zero, List.set_cons_succ, List.getElem_toArray, List.getElem_cons_zero, List.getElem_cons_succ]
      refine wpAnyH_take (i := 20) rfl (by kernel_rfl) (by kernel_rfl) (by kernel_rfl) (fun _ _ _ h => h) (yieldsIf_off (by rfl)) (by assumption) ?_
      simp only [Act.put, List.setIfInBounds_toArray, List.set_cons_zero, List.set_cons_succ, List.getElem_toArray, List.getElem_cons_zero, List.getElem_cons_succ]
      refine wpAnyH_take (i := 21) rfl (by kernel_rfl) (by kernel_rfl) (by kernel_rfl) (fun _ _ _ h => h) (yieldsIf_off (by rfl)) (by assumption) ?_
      simp only [Act.put, List.setIfInBounds_toArray, List.set_cons_zero, List.set_cons_succ, List.getElem_toArray, List.getElem_cons_zero, List.getElem_cons_succ]
      refine wpAnyH_take (i := 22) (v := ?_) rfl (by kernel_rfl) (by kernel_rfl) (by kernel_rfl) (fun _ _ _ h => h) (Or.inl ⟨by rfl, ?_⟩) (by assumption) ?_
      rotate_left
      · intro w hSw; go_simp; try with_reducible rfl
      simp only [Act.put, List.setIfInBounds_toArray, List.set_cons_zero, List.set_cons_succ, List.getElem_toArray, List.getElem_cons_zero, List.getElem_cons_succ]
      refine wpAnyH_take (i := 23) (v := ?_) rfl (by kernel_rfl) (by kernel_rfl) (by kernel_rfl) (fun _ _ _ h => h) (Or.inl ⟨by rfl, ?_⟩) (by assumption) ?_
      rotate_left
      · intro w hSw; go_simp; try with_reducible rfl
      simp only [Act.put, List.setIfInBounds_toArray, List.set_cons_zero, List.set_cons_succ, List.getElem_toArray, List.getElem_cons_zero, List.getElem_cons_succ]
      refine wpAnyH_done (by kernel_rfl) ?_ _
      go_wp2_with fail
      go_meet
      exact ⟨rfl, Lib.hid (by assumption)⟩
  case rest =>
    obtain ⟨rfl, T3⟩ := hcut
    clear T2
    obtain ⟨d1, d4, e1, e4⟩ := T3.out.lens
    go_wp2_with (refine wpListH_load_want rfl _ _ rfl w.heap.size rfl _ (hopA a (.slice p1 a.labels.length c1) (.slice p2 a.repair.length c2)) (0, 0) _ T3.out.k3.b Tryd.underlying24 rfl infoHop ?_)
    refine (GU.out _ T3.out).mono ?_
    rintro e w5 ⟨p5, c5, p6, c6, rfl, hi, b5, s1, s2⟩
    have T5 : Hid (TS15 w w5 a (.slice p1 a.labels.length c1) (.slice p2 a.repair.length c2) b (.slice p3 b.labels.length c3) (.slice p4 b.repair.length c4)) := Lib.hid (T3.out.next b5)
    have hz5 := T5.out.k4.b.lt
    have hz6 := b5.size
    have hz7 := T3.out.k4.b.lt
    have g3 : ∀ o, (w5.alloc o).cell? ⟨w.heap.size, 3, none⟩ = some (.int .i64 a.backup) := fun o => (T5.out.k3.b.alloc o).cell 3
    have g4 : ∀ o, (w5.alloc o).cell? ⟨w.heap.size, 4, none⟩ = some (.slice p2 a.repair.length c2) := fun o => (T5.out.k3.b.alloc o).cell 4
    have q4 : ∀ o, (w5.alloc o).cell? ⟨w.heap.size + 1, 4, none⟩ = some (.slice p4 b.repair.length c4) := fun o => (T5.out.k4.b.alloc o).cell 4
    have f3 : ∀ o, (w5.alloc o).frozen? ⟨w.heap.size, 3, none⟩ = false := fun o => (T5.out.k3.b.alloc o).frozen' 3
    have f4 : ∀ o, (w5.alloc o).frozen? ⟨w.heap.size, 4, none⟩ = false := fun o => (T5.out.k3.b.alloc o).frozen' 4
    have M1 : Hid (Blk (((w5.alloc (.cells #[.int .i64 a.op, .slice p5 a.labels.length c5, .int .i64 a.port, .int .i64 bk, .slice p6 b.repair.length c6, .bool a.pipe] 24)).setCell ⟨w.heap.size, 3, none⟩ (.int .i64 bk)).setCell ⟨w.heap.size, 4, none⟩ (.slice p4 b.repair.length c4)) w.heap.size 24 (hopA (Hp.guarded a bk b.repair) (.slice p1 a.labels.length c1) (.slice p4 b.repair.length c4))) := Lib.hid (((T5.out.k3.b.alloc _).set 3 _).set 4 _)
    have M2 : Hid (Blk (((w5.alloc (.cells #[.int .i64 a.op, .slice p5 a.labels.length c5, .int .i64 a.port, .int .i64 bk, .slice p6 b.repair.length c6, .bool a.pipe] 24)).setCell ⟨w.heap.size, 3, none⟩ (.int .i64 bk)).setCell ⟨w.heap.size, 4, none⟩ (.slice p4 b.repair.length c4)) w5.heap.size 24 (hopA (Hp.guarded a bk b.repair) (.slice p5 a.labels.length c5) (.slice p6 b.repair.length c6))) := Lib.hid (((Blk.new w5 _ _).other _ _ (by simp; omega)).other _ _ (by simp; omega))
    have MB : Hid (Below w.heap.size w (((w5.alloc (.cells #[.int .i64 a.op, .slice p5 a.labels.length c5, .int .i64 a.port, .int .i64 bk, .slice p6 b.repair.length c6, .bool a.pipe] 24)).setCell ⟨w.heap.size, 3, none⟩ (.int .i64 bk)).setCell ⟨w.heap.size, 4, none⟩ (.slice p4 b.repair.length c4))) := Lib.hid (((T5.out.bel.trans ((belowA w5 _).mono T5.out.bel.size)).setCell (by simp) _).setCell (by simp) _)
    have hgr : (w5.alloc (.cells #[.int .i64 a.op, .slice p5 a.labels.length c5, .int .i64 a.port, .int .i64 bk, .slice p6 b.repair.length c6, .bool a.pipe] 24)).grownBy (((w5.alloc (.cells #[.int .i64 a.op, .slice p5 a.labels.length c5, .int .i64 a.port, .int .i64 bk, .slice p6 b.repair.length c6, .bool a.pipe] 24)).setCell ⟨w.heap.size, 3, none⟩ (.int .i64 bk)).setCell ⟨w.heap.size, 4, none⟩ (.slice p4 b.repair.length c4)) (some w.heap.size) := grown_trans (grown_set _ w.heap.size 3 _) (grown_set _ w.heap.size 4 _)
    have N1 := (s1.below (belowA w5 (.cells #[.int .i64 a.op, .slice p5 a.labels.length c5, .int .i64 a.port, .int .i64 bk, .slice p6 b.repair.length c6, .bool a.pipe] 24)) (Nat.le_refl _)).grown hgr (fun x hx => by simp; omega)
    have N2 := (s2.below (belowA w5 (.cells #[.int .i64 a.op, .slice p5 a.labels.length c5, .int .i64 a.port, .int .i64 bk, .slice p6 b.repair.length c6, .bool a.pipe] 24)) (Nat.le_refl _)).grown hgr (fun x hx => by simp; omega)
    have SM := Lib.hid (ref_Same15 (Hp.guarded a bk b.repair) (Hp.guarded a bk b.repair) _ _ _ _ _ ⟨hi.n1, hi.n2, N1.sl, N2.sl⟩ ⟨HAS.out.1, HBS.out.1, HAS.out.2.below MB.out (Nat.le_refl _), HBS.out.2.below MB.out (Nat.le_refl _)⟩)
    rw [decide_eq_true rfl] at SM
    clear hi b5 s1 s2 N1 N2 hgr d1 d4 e1 e4
    go_wp2_with (first
      | (refine wpListH_load_want rfl _ _ rfl w5.heap.size rfl _ (hopA (Hp.guarded a bk b.repair) (.slice p5 a.labels.length c5) (.slice p6 b.repair.length c6)) (0, 0) _ M2.out Tryd.underlying24 rfl infoHop ?_)
      | (refine wpListH_load_want rfl _ _ rfl w.heap.size rfl _ (hopA (Hp.guarded a bk b.repair) (.slice p1 a.labels.length c1) (.slice p4 b.repair.length c4)) (0, 0) _ M1.out Tryd.underlying24 rfl infoHop ?_))
    refine SM.out.mono ?_
    rintro e w6 ⟨rfl, b6⟩
    go_wp2_with fail
    go_ret
    exact ⟨rfl, MB.out.trans (b6.mono MB.out.size)⟩
end Go.Proofs.YtilahcnpjbnjiaaDoor

