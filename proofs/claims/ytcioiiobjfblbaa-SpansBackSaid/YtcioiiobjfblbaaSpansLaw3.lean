/- SpansTell. -/
import Derived.Test.YtcioiiobjfblbaaSpansLaw2
namespace Go.Proofs.Ytcioiiobjfblbaa
set_option linter.unusedVariables false
set_option linter.unusedSimpArgs false
open Go.RowKit Go.Shelf Go.Proofs

/-- a boxed span -/
structure Bx (b : Nat) (s : Sp.S) (W : World) : Prop where
  lo : W.cell? ⟨b, 0, none⟩ = some (.int .i64 s.1)
  hi : W.cell? ⟨b, 1, none⟩ = some (.int .i64 s.2)
  lt : b < W.heap.size
theorem Bx.next {b : Nat} {s : Sp.S} {W W' : World} (h : Bx b s W) (hb : Below W.heap.size W W') : Bx b s W' :=
  ⟨((bcell hb).1 _ _ h.lt).trans h.lo, ((bcell hb).1 _ _ h.lt).trans h.hi, Nat.lt_of_lt_of_le h.lt hb.size⟩
theorem Bx.new (W : World) (x y : Int) (t : TypeId) : Bx W.heap.size (x, y) (W.alloc (.cells #[.int .i64 x, .int .i64 y] t)) := by
  obtain ⟨h0, h1, _, _⟩ := box2 (Below.refl (W.alloc (.cells #[.int .i64 x, .int .i64 y] t)).heap.size (W.alloc (.cells #[.int .i64 x, .int .i64 y] t)))
  exact ⟨h0, h1, by simp⟩

/-- rows, their box, and two more boxes -/
structure St3 (w : World) (v : Value) (l : List Sp.S) (b : Nat) (s : Sp.S) (b1 : Nat) (x : Sp.S) (b2 : Nat) (y : Sp.S) (W : World) : Prop where
  st : St w v l b s W
  one : Bx b1 x W
  two : Bx b2 y W
theorem St3.next {w : World} {v : Value} {l : List Sp.S} {b : Nat} {s : Sp.S} {b1 : Nat} {x : Sp.S} {b2 : Nat} {y : Sp.S} {W W' : World} (h : St3 w v l b s b1 x b2 y W) (hb : Below W.heap.size W W') : St3 w v l b s b1 x b2 y W' :=
  ⟨h.st.next hb, h.one.next hb, h.two.next hb⟩
theorem St3.drew {w : World} {v : Value} {l : List Sp.S} {b : Nat} {s : Sp.S} {b1 : Nat} {x : Sp.S} {b2 : Nat} {y : Sp.S} {W : World} (h : St3 w v l b s b1 x b2 y W) : St3 w v l b s b1 x b2 y W.drew := h.next (Below.refl _ _).drew
abbrev SS3 (w : World) (v : Value) (l : List Sp.S) (b : Nat) (s : Sp.S) (b1 : Nat) (x : Sp.S) (b2 : Nat) (y : Sp.S) (W : World) : Prop :=
  W.cell? ⟨b, 0, none⟩ = some (.int .i64 s.1) ∧ W.cell? ⟨b, 1, none⟩ = some (.int .i64 s.2) ∧ W.cell? ⟨b1, 0, none⟩ = some (.int .i64 x.1) ∧ W.cell? ⟨b1, 1, none⟩ = some (.int .i64 x.2) ∧
    W.cell? ⟨b2, 0, none⟩ = some (.int .i64 y.1) ∧ W.cell? ⟨b2, 1, none⟩ = some (.int .i64 y.2) ∧ St3 w v l b s b1 x b2 y W
theorem St3.ss {w : World} {v : Value} {l : List Sp.S} {b : Nat} {s : Sp.S} {b1 : Nat} {x : Sp.S} {b2 : Nat} {y : Sp.S} {W : World} (h : St3 w v l b s b1 x b2 y W) : SS3 w v l b s b1 x b2 y W :=
  ⟨h.st.lo, h.st.hi, h.one.lo, h.one.hi, h.two.lo, h.two.hi, h⟩

set_option maxRecDepth 100000 in
set_option maxHeartbeats 8000000 in
theorem law_tell (l : List Sp.S) (s : Sp.S) (size : Int) (hmin : -9223372036854775808 ≤ size) (hmax : size ≤ 9223372036854775807) (v : Value) (w : World) (hv : SlR w 2 encSp v l) :
    Calls Try.prog 4 #[v, .agg #[.int .i64 s.1, .int .i64 s.2], .int .i64 size] w fun e w' => e = .returned (.bool true) ∧ Below w.heap.size w w' := by
  have hv0 := hv
  obtain ⟨p, cap, rfl, hq1, hq2, hq3⟩ := hv0
  obtain ⟨a, b⟩ := s
  clear hq3
  have HMn := Lib.hid hmin
  have HMx := Lib.hid hmax
  clear hmin hmax
  by_cases hlen : l.length ≤ 30
  · have e1 : decide (30 < (l.length : Int)) = false := by simp; omega
    have hl' : l.length ≤ 1073741824 := by omega
    have HQ := Lib.hid hq1
    have HQ2 := Lib.hid hq2
    have HE' := Lib.hid hl'
    clear hlen hq1 hq2 hl'
    have HF := Lib.hid (fun v W h => spans_First l HE'.out size HMn.out HMx.out v W h)
    have HG := Lib.hid (fun v W h => ref_First l size v W HMn.out HMx.out HE'.out h)
    generalize Sp.first l size = r at HF HG
    obtain ⟨⟨x, y⟩, ok⟩ := r
    go_enter Try.func4, Try.ntmps4
    go_wp2_with fail
    refine (law11_awake _).mono ?_
    rintro e w1 ⟨rfl, hb1⟩
    obtain ⟨hc0, hc1, hz, hbA⟩ := box2 hb1
    have h1 : St w (.slice p l.length cap) l w.heap.size (a, b) w1 := ⟨hv.below hbA (Nat.le_refl _), hc0, hc1, hz, hbA⟩
    clear hb1 hbA hz hc0 hc1
    go_wp2_with fail
    refine (HF.out _ _ h1.row).mono ?_
    rintro e w2 ⟨rfl, hb2⟩
    have h2 := h1.next hb2
    clear h1 hb2
    simp only
    have h3 := h2.next (belowA w2 (.cells #[.int .i64 x, .int .i64 y] 24))
    have x3 := Bx.new w2 x y 24
    go_wp2_with fail
    refine (HG.out _ _ h3.row).mono ?_
    rintro e w4 ⟨rfl, hb4⟩
    have h4 := (h3.next hb4).next (belowA w4 (.cells #[.int .i64 x, .int .i64 y] 24))
    have x4 := (x3.next hb4).next (belowA w4 (.cells #[.int .i64 x, .int .i64 y] 24))
    have y4 := Bx.new w4 x y 24
    clear h2 h3 x3 hb4
    simp only
    have hss : SS3 w (.slice p l.length cap) l w.heap.size (a, b) w2.heap.size (x, y) w4.heap.size (x, y) _ := St3.ss ⟨h4, x4, y4⟩
    clear h4 x4 y4
    go_wp2_with fail
    go_region_held3 (fun W => SS3 w (.slice p l.length cap) l w.heap.size (a, b) w2.heap.size (x, y) w4.heap.size (x, y) W)
      (first
        | exact St3.ss (by assumption)
        | (go_split_ands; exact St3.ss (by assumption))
        | (go_split_ands; exact St3.ss (St3.drew (by assumption))))
      (first
        | (go_at_call 28; go_split_ands; refine (ref_Longest l _ _ HE'.out (St3.st (by assumption)).row).mono ?_; rintro e u8 ⟨rfl, hb18⟩; have ht8 := St3.next (w := w) (v := .slice p l.length cap) (l := l) (b := w.heap.size) (s := (a, b)) (b1 := w2.heap.size) (x := (x, y)) (b2 := w4.heap.size) (y := (x, y)) (by assumption) hb18)
        | (go_at_call 27; go_split_ands; refine (spans_Longest l HE'.out _ _ (St3.st (by assumption)).row).mono ?_; rintro e u7 ⟨rfl, hb17⟩; have ht7 := St3.next (w := w) (v := .slice p l.length cap) (l := l) (b := w.heap.size) (s := (a, b)) (b1 := w2.heap.size) (x := (x, y)) (b2 := w4.heap.size) (y := (x, y)) (by assumption) hb17)
        | (go_at_call 26; go_split_ands; refine (ref_Count l _ _ HE'.out (St3.st (by assumption)).row).mono ?_; rintro e u6 ⟨rfl, hb16⟩; have ht6 := St3.next (w := w) (v := .slice p l.length cap) (l := l) (b := w.heap.size) (s := (a, b)) (b1 := w2.heap.size) (x := (x, y)) (b2 := w4.heap.size) (y := (x, y)) (by assumption) hb16)
        | (go_at_call 25; go_split_ands; refine (spans_Count l HE'.out _ _ (St3.st (by assumption)).row).mono ?_; rintro e u5 ⟨rfl, hb15⟩; have ht5 := St3.next (w := w) (v := .slice p l.length cap) (l := l) (b := w.heap.size) (s := (a, b)) (b1 := w2.heap.size) (x := (x, y)) (b2 := w4.heap.size) (y := (x, y)) (by assumption) hb15)
        | (go_at_call 24; go_split_ands; refine (ref_Meets l (a, b) _ _ HE'.out (St3.st (by assumption)).row).mono ?_; rintro e u4 ⟨rfl, hb14⟩; have ht4 := St3.next (w := w) (v := .slice p l.length cap) (l := l) (b := w.heap.size) (s := (a, b)) (b1 := w2.heap.size) (x := (x, y)) (b2 := w4.heap.size) (y := (x, y)) (by assumption) hb14)
        | (go_at_call 23; go_split_ands; refine (spans_Meets l HE'.out (a, b) _ _ (St3.st (by assumption)).row).mono ?_; rintro e u3 ⟨rfl, hb13⟩; have ht3 := St3.next (w := w) (v := .slice p l.length cap) (l := l) (b := w.heap.size) (s := (a, b)) (b1 := w2.heap.size) (x := (x, y)) (b2 := w4.heap.size) (y := (x, y)) (by assumption) hb13)
        | (go_at_call 22; go_split_ands; refine (ref_Has l (a, b) _ _ HE'.out (St3.st (by assumption)).row).mono ?_; rintro e u2 ⟨rfl, hb12⟩; have ht2 := St3.next (w := w) (v := .slice p l.length cap) (l := l) (b := w.heap.size) (s := (a, b)) (b1 := w2.heap.size) (x := (x, y)) (b2 := w4.heap.size) (y := (x, y)) (by assumption) hb12)
        | (go_at_call 21; go_split_ands; refine (spans_Has l HE'.out (a, b) _ _ (St3.st (by assumption)).row).mono ?_; rintro e u1 ⟨rfl, hb11⟩; have ht1 := St3.next (w := w) (v := .slice p l.length cap) (l := l) (b := w.heap.size) (s := (a, b)) (b1 := w2.heap.size) (x := (x, y)) (b2 := w4.heap.size) (y := (x, y)) (by assumption) hb11))
    all_goals go_wp2_with fail
    all_goals go_ret
    all_goals exact ⟨rfl, (St3.st (w := w) (v := .slice p l.length cap) (l := l) (b := w.heap.size) (s := (a, b)) (b1 := w2.heap.size) (x := (x, y)) (b2 := w4.heap.size) (y := (x, y)) (by assumption)).below⟩
  · have e1 : decide (30 < (l.length : Int)) = true := by simp; omega
    clear hlen hq1 hq2
    go_enter Try.func4, Try.ntmps4
    go_wp2_with fail
    refine (law11_awake _).mono ?_
    rintro e w1 ⟨rfl, hb1⟩
    obtain ⟨hc0, hc1, hz, hbA⟩ := box2 hb1
    clear hb1 hz hc0 hc1
    go_wp2_with fail
    go_ret
    exact ⟨rfl, hbA⟩
end Go.Proofs.Ytcioiiobjfblbaa
