/- SpansNorm. -/
import Derived.Test.YtcioiiobjfblbaaSpansLaw
namespace Go.Proofs.Ytcioiiobjfblbaa
set_option linter.unusedVariables false
set_option linter.unusedSimpArgs false
open Go.RowKit Go.Shelf Go.Proofs

/-- St, with the box's two cells laid open for a region's loads. -/
abbrev SS (w : World) (v : Value) (l : List Sp.S) (b : Nat) (s : Sp.S) (W : World) : Prop :=
  W.cell? ⟨b, 0, none⟩ = some (.int .i64 s.1) ∧ W.cell? ⟨b, 1, none⟩ = some (.int .i64 s.2) ∧ St w v l b s W
theorem St.ss {w : World} {v : Value} {l : List Sp.S} {b : Nat} {s : Sp.S} {W : World} (h : St w v l b s W) : SS w v l b s W := ⟨h.lo, h.hi, h⟩
theorem St.drew {w : World} {v : Value} {l : List Sp.S} {b : Nat} {s : Sp.S} {W : World} (h : St w v l b s W) : St w v l b s W.drew := h.next (Below.refl _ _).drew
theorem same_self (a : List Sp.S) (va vb : Value) (w : World) (ha : a.length ≤ 1073741824) (hva : SlR w 2 encSp va a) (hvb : SlR w 2 encSp vb a) :
    Calls Try.prog 12 #[va, vb] w fun e w' => e = .returned (.bool true) ∧ Below w.heap.size w w' :=
  (ref_Same a a va vb w ha hva hvb).mono fun e w' h => ⟨h.1.trans (by simp), h.2⟩
theorem norm_len' (l : List Sp.S) (hl : l.length ≤ 536870912) : (Sp.norm l).length ≤ 1073741824 := by have := Sp.norm_length l; omega
theorem add_len' (l : List Sp.S) (s : Sp.S) (hl : l.length ≤ 536870912) : (Sp.add l s).length ≤ 1073741824 := by
  have := Sp.norm_length (l ++ [s]); unfold Sp.add; simp at this; omega
theorem cut_len' (l : List Sp.S) (s : Sp.S) (hl : l.length ≤ 536870912) : (Sp.cut l s).length ≤ 1073741824 := by
  have h1 := Sp.norm_length l
  have h2 := Sp.norm_length (Sp.pieces s (Sp.norm l))
  rw [Sp.pieces_len] at h2
  unfold Sp.cut; split <;> omega
theorem SlR.drew {W : World} {v : Value} {l : List Sp.S} (h : SlR W 2 encSp v l) : SlR W.drew 2 encSp v l := h.below (Below.refl _ _).drew (Nat.le_refl _)

set_option maxRecDepth 100000 in
set_option maxHeartbeats 8000000 in
theorem law_norm (l : List Sp.S) (s : Sp.S) (v : Value) (w : World) (hv : SlR w 2 encSp v l) :
    Calls Try.prog 3 #[v, .agg #[.int .i64 s.1, .int .i64 s.2]] w fun e w' => e = .returned (.bool true) ∧ Below w.heap.size w w' := by
  have hv0 := hv
  obtain ⟨p, cap, rfl, hq1, hq2, hq3⟩ := hv0
  obtain ⟨a, b⟩ := s
  clear hq3
  by_cases hlen : l.length ≤ 30
  · have e1 : decide (30 < (l.length : Int)) = false := by simp; omega
    have hl : l.length ≤ 536870912 := by omega
    have hl' : l.length ≤ 1073741824 := by omega
    have HL := Lib.hid hlen
    have HQ := Lib.hid hq1
    have HQ2 := Lib.hid hq2
    have HE := Lib.hid hl
    have HE' := Lib.hid hl'
    clear hlen hq1 hq2 hl hl'
    go_enter Try.func3, Try.ntmps3
    go_wp2_with fail
    refine (law11_awake _).mono ?_
    rintro e w1 ⟨rfl, hb1⟩
    obtain ⟨hc0, hc1, hz, hbA⟩ := box2 hb1
    have h1 : St w (.slice p l.length cap) l w.heap.size (a, b) w1 := ⟨hv.below hbA (Nat.le_refl _), hc0, hc1, hz, hbA⟩
    clear hb1 hbA hz hc0 hc1
    go_wp2_with fail
    have hss := h1.ss
    clear h1
    go_region_held3 (fun W => SS w (.slice p l.length cap) l w.heap.size (a, b) W)
      (first
        | exact St.ss (by assumption)
        | (go_split_ands; exact St.ss (by assumption))
        | (go_split_ands; exact St.ss (St.drew (by assumption))))
      (first
        | (go_at_call 12; go_split_ands; refine (same_self (Sp.cut l (a, b)) v8 v9 _ (cut_len' l (a, b) HE.out) (by first | exact hm9 | exact hm9.drew) (by first | exact hn9 | exact hn9.drew)).mono ?_; rintro e w10 ⟨rfl, hb10⟩; have hst10 := St.next (w := w) (v := .slice p l.length cap) (l := l) (b := w.heap.size) (s := (a, b)) (by assumption) hb10)
        | (go_at_call 18; go_split_ands; refine (ref_Cut l (a, b) _ _ HE.out (St.row (by assumption))).mono ?_; rintro e w9 ⟨v9, rfl, ho9, hb9⟩; have hst9 := St.next (w := w) (v := .slice p l.length cap) (l := l) (b := w.heap.size) (s := (a, b)) (by assumption) hb9; have hn9 := SlR.of_owns encSp_len ho9; have hm9 : SlR w9 2 encSp v8 (Sp.cut l (a, b)) := (by first | exact hn8.below hb9 (Nat.le_refl _) | exact hn8.drew.below hb9 (Nat.le_refl _)))
        | (go_at_call 17; go_split_ands; refine (spans_Cut l (a, b) _ _ HE.out (St.row (by assumption))).mono ?_; rintro e w8 ⟨v8, rfl, ho8, hb8⟩; have hst8 := St.next (w := w) (v := .slice p l.length cap) (l := l) (b := w.heap.size) (s := (a, b)) (by assumption) hb8; have hn8 := SlR.of_owns encSp_len ho8)
        | (go_at_call 12; go_split_ands; refine (same_self (Sp.add l (a, b)) v5 v6 _ (add_len' l (a, b) HE.out) (by first | exact hm6 | exact hm6.drew) (by first | exact hn6 | exact hn6.drew)).mono ?_; rintro e w7 ⟨rfl, hb7⟩; have hst7 := St.next (w := w) (v := .slice p l.length cap) (l := l) (b := w.heap.size) (s := (a, b)) (by assumption) hb7)
        | (go_at_call 16; go_split_ands; refine (ref_Add l (a, b) _ _ HE.out (St.row (by assumption))).mono ?_; rintro e w6 ⟨v6, rfl, ho6, hb6⟩; have hst6 := St.next (w := w) (v := .slice p l.length cap) (l := l) (b := w.heap.size) (s := (a, b)) (by assumption) hb6; have hn6 := SlR.of_owns encSp_len ho6; have hm6 : SlR w6 2 encSp v5 (Sp.add l (a, b)) := (by first | exact hn5.below hb6 (Nat.le_refl _) | exact hn5.drew.below hb6 (Nat.le_refl _)))
        | (go_at_call 15; go_split_ands; refine (spans_Add l HE.out (a, b) _ _ (St.row (by assumption))).mono ?_; rintro e w5 ⟨v5, rfl, ho5, hb5⟩; have hst5 := St.next (w := w) (v := .slice p l.length cap) (l := l) (b := w.heap.size) (s := (a, b)) (by assumption) hb5; have hn5 := SlR.of_owns encSp_len ho5)
        | (go_at_call 12; go_split_ands; refine (same_self (Sp.norm l) v2 v3 _ (norm_len' l HE.out) (by first | exact hm3 | exact hm3.drew) (by first | exact hn3 | exact hn3.drew)).mono ?_; rintro e w4 ⟨rfl, hb4⟩; have hst4 := St.next (w := w) (v := .slice p l.length cap) (l := l) (b := w.heap.size) (s := (a, b)) (by assumption) hb4)
        | (go_at_call 14; go_split_ands; refine (ref_Norm l _ _ HE'.out (St.row (by assumption))).mono ?_; rintro e w3 ⟨v3, rfl, ho3, hb3⟩; have hst3 := St.next (w := w) (v := .slice p l.length cap) (l := l) (b := w.heap.size) (s := (a, b)) (by assumption) hb3; have hn3 := SlR.of_owns encSp_len ho3; have hm3 : SlR w3 2 encSp v2 (Sp.norm l) := (by first | exact hn2.below hb3 (Nat.le_refl _) | exact hn2.drew.below hb3 (Nat.le_refl _)))
        | (go_at_call 13; go_split_ands; refine (spans_Norm l HE'.out _ _ (St.row (by assumption))).mono ?_; rintro e w2 ⟨v2, rfl, ho2, hb2⟩; have hst2 := St.next (w := w) (v := .slice p l.length cap) (l := l) (b := w.heap.size) (s := (a, b)) (by assumption) hb2; have hn2 := SlR.of_owns encSp_len ho2))
    go_wp2_with fail
    go_ret
    exact ⟨rfl, hst10.below⟩
  · have e1 : decide (30 < (l.length : Int)) = true := by simp; omega
    clear hlen hq1 hq2
    go_enter Try.func3, Try.ntmps3
    go_wp2_with fail
    refine (law11_awake _).mono ?_
    rintro e w1 ⟨rfl, hb1⟩
    obtain ⟨hc0, hc1, hz, hbA⟩ := box2 hb1
    clear hb1 hz hc0 hc1
    go_wp2_with fail
    go_ret
    exact ⟨rfl, hbA⟩
end Go.Proofs.Ytcioiiobjfblbaa
