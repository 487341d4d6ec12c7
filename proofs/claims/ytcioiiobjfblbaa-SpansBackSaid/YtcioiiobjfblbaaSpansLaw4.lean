/- SpansCount. -/
import Derived.Test.YtcioiiobjfblbaaSpansLaw3
import Derived.Test.YtcioiiobjfblbaaSpansPlain2
namespace Go.Proofs.Ytcioiiobjfblbaa
set_option linter.unusedVariables false
set_option linter.unusedSimpArgs false
open Go.RowKit Go.Shelf Go.Proofs

theorem cut_len2 (l : List Sp.S) (s : Sp.S) : (Sp.cut l s).length ≤ 2 * l.length := by
  have h1 := Sp.norm_length l
  have h2 := Sp.norm_length (Sp.pieces s (Sp.norm l))
  rw [Sp.pieces_len] at h2
  unfold Sp.cut; split <;> omega
theorem add_len2 (l : List Sp.S) (s : Sp.S) : (Sp.add l s).length ≤ l.length + 1 := by
  have := Sp.norm_length (l ++ [s]); unfold Sp.add; simp at this; omega
theorem count_bd (l : List Sp.S) (h : l.length ≤ 1000) : 0 ≤ Sp.count l ∧ Sp.count l ≤ 1048576000 := by
  have h1 := Sp.total_bd (Sp.norm_ok l).1.may
  have h2 := Sp.norm_length l
  unfold Sp.count
  omega
theorem longest_bd (l : List Sp.S) : 0 ≤ Sp.longest l ∧ Sp.longest l ≤ 1048576 := Sp.most_bd (Sp.norm_ok l).1.may

set_option maxRecDepth 100000 in
set_option maxHeartbeats 8000000 in
theorem law_count (l : List Sp.S) (s : Sp.S) (v : Value) (w : World) (hv : SlR w 2 encSp v l) :
    Calls Try.prog 7 #[v, .agg #[.int .i64 s.1, .int .i64 s.2]] w fun e w' => e = .returned (.bool true) ∧ Below w.heap.size w w' := by
  have hv0 := hv
  obtain ⟨p, cap, rfl, hq1, hq2, hq3⟩ := hv0
  obtain ⟨a, b⟩ := s
  clear hq3
  by_cases hlen : l.length ≤ 30
  · have e1 : decide (30 < (l.length : Int)) = false := by simp; omega
    have hl : l.length ≤ 536870912 := by omega
    have hl' : l.length ≤ 1073741824 := by omega
    have HL := Lib.hid hlen
    have HQ := Lib.hid hq1
    have HQ2 := Lib.hid hq2
    have HE := Lib.hid hl
    have HE' := Lib.hid hl'
    have HA := Lib.hid (add_len2 l (a, b))
    have HC := Lib.hid (cut_len2 l (a, b))
    clear hlen hq1 hq2 hl hl'
    go_enter Try.func7, Try.ntmps7
    go_wp2_with fail
    refine (law11_awake _).mono ?_
    rintro e w1 ⟨rfl, hb1⟩
    obtain ⟨hc0, hc1, hz, hbA⟩ := box2 hb1
    have h1 : St w (.slice p l.length cap) l w.heap.size (a, b) w1 := ⟨hv.below hbA (Nat.le_refl _), hc0, hc1, hz, hbA⟩
    clear hb1 hbA hz hc0 hc1
    have hc0 := h1.lo
    have hc1 := h1.hi
    go_wp2_with fail
    clear hc0 hc1
    refine (spans_Cut l (a, b) _ _ HE.out h1.row).mono ?_
    rintro e w2 ⟨vc, rfl, ho2, hb2⟩
    have h2 := h1.next hb2
    have c2 := SlR.of_owns encSp_len ho2
    clear h1 ho2 hb2
    have hc0 := h2.lo
    have hc1 := h2.hi
    go_wp2_with fail
    clear hc0 hc1
    refine (spans_Add l HE.out (a, b) _ _ h2.row).mono ?_
    rintro e w3 ⟨va, rfl, ho3, hb3⟩
    have h3 := h2.next hb3
    have a3 := SlR.of_owns encSp_len ho3
    have c3 := c2.below hb3 (Nat.le_refl _)
    clear h2 ho3 hb3 c2
    have hc0 := h3.lo
    have hc1 := h3.hi
    go_wp2_with fail
    clear hc0 hc1
    refine (spans_Count [(a, b)] (by simp) _ _ (slr_lit encSp_len w3 _ [(a, b)] (by simp) _ rfl)).mono ?_
    rintro e w4 ⟨rfl, hb4⟩
    have hb4' := belowA2 hb4
    have h4 := h3.next hb4'
    have a4 := a3.below hb4' (Nat.le_refl _)
    have c4 := c3.below hb4' (Nat.le_refl _)
    clear h3 a3 c3 hb4 hb4'
    go_wp2_with fail
    refine (spans_Count _ (by have := HA.out; have := HL.out; omega) _ _ a4).mono ?_
    rintro e w5 ⟨rfl, hb5⟩
    have h5 := h4.next hb5
    have a5 := a4.below hb5 (Nat.le_refl _)
    have c5 := c4.below hb5 (Nat.le_refl _)
    clear h4 a4 c4 hb5
    go_wp2_with fail
    refine (spans_Count _ (by have := HC.out; have := HL.out; omega) _ _ c5).mono ?_
    rintro e w6 ⟨rfl, hb6⟩
    have h6 := h5.next hb6
    have a6 := a5.below hb6 (Nat.le_refl _)
    have c6 := c5.below hb6 (Nat.le_refl _)
    clear h5 a5 c5 hb6
    have b1 := count_bd (Sp.cut l (a, b)) (by have := HC.out; have := HL.out; omega)
    have b2 := count_bd [(a, b)] (by simp)
    have ec : (Sp.count (Sp.add l (a, b)) == wrap64 (Sp.count (Sp.cut l (a, b)) + Sp.count [(a, b)])) = true := by
      have h1 : wrap64 (Sp.count (Sp.cut l (a, b)) + Sp.count [(a, b)]) = Sp.count (Sp.cut l (a, b)) + Sp.count [(a, b)] := IntWalk.wrap64_in _ (by omega)
      rw [h1, Sp.count_add]
      simp
    clear b1 b2
    have hc0 := h6.lo
    have hc1 := h6.hi
    go_wp2_with fail
    clear hc0 hc1 ec
    refine (spans_Cut (Sp.cut l (a, b)) (a, b) _ _ (by have := HC.out; have := HL.out; omega) c6).mono ?_
    rintro e w7 ⟨v7, rfl, ho7, hb7⟩
    have h7 := h6.next hb7
    have a7 := a6.below hb7 (Nat.le_refl _)
    have c7 := c6.below hb7 (Nat.le_refl _)
    have n7 := SlR.of_owns encSp_len ho7
    rw [Sp.cut_cut] at n7
    clear h6 a6 c6 ho7 hb7
    go_wp2_with fail
    refine (same_self _ _ _ _ (cut_len' l (a, b) HE.out) n7 c7).mono ?_
    rintro e w8 ⟨rfl, hb8⟩
    have h8 := h7.next hb8
    have a8 := a7.below hb8 (Nat.le_refl _)
    have c8 := c7.below hb8 (Nat.le_refl _)
    clear h7 a7 c7 n7 hb8
    have hc0 := h8.lo
    have hc1 := h8.hi
    go_wp2_with fail
    clear hc0 hc1
    refine (spans_Add (Sp.add l (a, b)) (by have := HA.out; have := HL.out; omega) (a, b) _ _ a8).mono ?_
    rintro e w9 ⟨v9, rfl, ho9, hb9⟩
    have h9 := h8.next hb9
    have a9 := a8.below hb9 (Nat.le_refl _)
    have c9 := c8.below hb9 (Nat.le_refl _)
    have n9 := SlR.of_owns encSp_len ho9
    rw [Sp.add_add] at n9
    clear h8 a8 c8 ho9 hb9
    go_wp2_with fail
    refine (same_self _ _ _ _ (add_len' l (a, b) HE.out) n9 a9).mono ?_
    rintro e w10 ⟨rfl, hb10⟩
    have h10 := h9.next hb10
    have a10 := a9.below hb10 (Nat.le_refl _)
    have c10 := c9.below hb10 (Nat.le_refl _)
    clear h9 a9 c9 n9 hb10
    have hc0 := h10.lo
    have hc1 := h10.hi
    go_wp2_with fail
    clear hc0 hc1
    refine (spans_Add (Sp.cut l (a, b)) (by have := HC.out; have := HL.out; omega) (a, b) _ _ c10).mono ?_
    rintro e w11 ⟨v11, rfl, ho11, hb11⟩
    have h11 := h10.next hb11
    have a11 := a10.below hb11 (Nat.le_refl _)
    have n11 := SlR.of_owns encSp_len ho11
    rw [Sp.add_cut] at n11
    clear h10 a10 c10 ho11 hb11
    go_wp2_with fail
    refine (same_self _ _ _ _ (add_len' l (a, b) HE.out) n11 a11).mono ?_
    rintro e w12 ⟨rfl, hb12⟩
    have h12 := h11.next hb12
    have a12 := a11.below hb12 (Nat.le_refl _)
    clear h11 a11 n11 hb12
    go_wp2_with fail
    refine (spans_Longest _ (add_len' l (a, b) HE.out) _ _ a12).mono ?_
    rintro e w13 ⟨rfl, hb13⟩
    have h13 := h12.next hb13
    clear h12 a12 hb13
    go_wp2_with fail
    refine (spans_Longest l HE'.out _ _ h13.row).mono ?_
    rintro e w14 ⟨rfl, hb14⟩
    have h14 := h13.next hb14
    clear h13 hb14
    have hle := Sp.longest_add l (a, b)
    go_wp2_with fail
    go_ret
    exact ⟨rfl, h14.below⟩
  · have e1 : decide (30 < (l.length : Int)) = true := by simp; omega
    clear hlen hq1 hq2
    go_enter Try.func7, Try.ntmps7
    go_wp2_with fail
    refine (law11_awake _).mono ?_
    rintro e w1 ⟨rfl, hb1⟩
    obtain ⟨hc0, hc1, hz, hbA⟩ := box2 hb1
    clear hb1 hz hc0 hc1
    go_wp2_with fail
    go_ret
    exact ⟨rfl, hbA⟩
end Go.Proofs.Ytcioiiobjfblbaa
