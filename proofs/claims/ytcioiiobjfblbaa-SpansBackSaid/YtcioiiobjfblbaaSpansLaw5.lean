/- SpansLabels. -/
import Derived.Test.YtcioiiobjfblbaaSpansLaw4
namespace Go.Proofs.Ytcioiiobjfblbaa
set_option linter.unusedVariables false
set_option linter.unusedSimpArgs false
open Go.RowKit Go.Shelf Go.Proofs

theorem nrm_step' {m : List Sp.S} (h : Sp.Nrm m) (i : Nat) (x y : Sp.S) (hx : m[i]? = some x) (hy : m[i + 1]? = some y) : x.2 + 1 < y.1 := by
  obtain ⟨h1, rfl⟩ := List.getElem?_eq_some_iff.1 hx
  obtain ⟨h2, rfl⟩ := List.getElem?_eq_some_iff.1 hy
  exact Sp.nrm_step h h2

set_option maxRecDepth 100000 in
set_option maxHeartbeats 8000000 in
theorem law_labels (l : List Sp.S) (s : Sp.S) (n : Int) (hmin : -9223372036854775808 ≤ n) (hmax : n ≤ 9223372036854775807) (v : Value) (w : World) (hv : SlR w 2 encSp v l) :
    Calls Try.prog 5 #[v, .agg #[.int .i64 s.1, .int .i64 s.2], .int .i64 n] w fun e w' => e = .returned (.bool true) ∧ Below w.heap.size w w' := by
  have hv0 := hv
  obtain ⟨p, cap, rfl, hq1, hq2, hq3⟩ := hv0
  obtain ⟨a, b⟩ := s
  clear hq3 hmin hmax
  by_cases hlen : l.length ≤ 30
  · have e1 : decide (30 < (l.length : Int)) = false := by simp; omega
    have hl : l.length ≤ 536870912 := by omega
    have hl' : l.length ≤ 1073741824 := by omega
    have HL := Lib.hid hlen
    have HQ := Lib.hid hq1
    have HQ2 := Lib.hid hq2
    have HE := Lib.hid hl
    have HE' := Lib.hid hl'
    have HA := Lib.hid (add_len2 l (a, b))
    have HC := Lib.hid (cut_len2 l (a, b))
    have HM := Lib.hid (Sp.norm_length l)
    have HS := Lib.hid (nrm_step' (Sp.norm_ok l).1)
    have HB : Hid (∀ s ∈ Sp.norm l, 0 ≤ s.1 ∧ s.1 ≤ s.2 ∧ s.2 ≤ 1048575) := Lib.hid fun s hs => Sp.mayB_iff.1 ((Sp.norm_ok l).1.may s hs)
    have HI := Lib.hid (Sp.inB_norm l n)
    have HIa := Lib.hid (Sp.inB_add l (a, b) n)
    have HIc := Lib.hid (Sp.inB_cut l (a, b) n)
    have HN := Lib.hid (fun v W h => spans_Norm l hl' v W h)
    generalize Sp.norm l = m at HM HS HB HI HN
    clear hlen hq1 hq2 hl hl'
    go_enter Try.func5, Try.ntmps5
    go_wp2_with fail
    refine (law11_awake _).mono ?_
    rintro e w1 ⟨rfl, hb1⟩
    obtain ⟨hc0, hc1, hz, hbA⟩ := box2 hb1
    have h1 : St w (.slice p l.length cap) l w.heap.size (a, b) w1 := ⟨hv.below hbA (Nat.le_refl _), hc0, hc1, hz, hbA⟩
    clear hb1 hbA hz hc0 hc1
    go_wp2_with fail
    refine (ref_In l _ n _ HE'.out h1.row).mono ?_
    rintro e w2 ⟨rfl, hb2⟩
    have h2 := h1.next hb2
    clear h1 hb2
    have hc0 := h2.lo
    have hc1 := h2.hi
    go_wp2_with fail
    clear hc0 hc1
    refine (ref_In [(a, b)] _ n _ (by simp) (slr_lit encSp_len w2 _ [(a, b)] (by simp) _ rfl)).mono ?_
    rintro e w3 ⟨rfl, hb3⟩
    have h3 := h2.next (belowA2 hb3)
    clear h2 hb3
    go_wp2_with fail
    refine (HN.out _ _ h3.row).mono ?_
    rintro e w4 ⟨v4, rfl, ho4, hb4⟩
    have h4 := h3.next hb4
    obtain ⟨pm, cm, rfl, hd1, hd2, hR⟩ := owns_sp ho4
    have HD1 := Lib.hid hd1
    have HD2 := Lib.hid hd2
    clear h3 ho4 hb4 hd1 hd2
    have hm : m.length ≤ 30 := by have := HM.out; have := HL.out; omega
    go_wp2_with fail
    go_loopw [11] (fun i wr => ∃ j : Nat, i = .int .i64 ((j : Int) + 1) ∧ j ≤ m.length ∧ Below w4.heap.size w4 wr) (fun i _ => m.length + 1 - (intOf i).toNat)
    case atStart => exact ⟨0, rfl, by omega, Below.refl _ _⟩
    case round =>
      obtain ⟨j, rfl, hj, hbl⟩ := hrel
      by_cases hlt : j + 1 < m.length
      · obtain ⟨g, off, rfl, hbs, hx0, hx1⟩ := (hR.below hbl (Nat.le_refl _)).at2 hlt
        have hy1 : wr.cell? ⟨g, off + j * 2 + 1, none⟩ = some (.int .i64 (m[j]'(by omega)).2) := (hR.below hbl (Nat.le_refl _)).in (i := j) (by omega) 1 _ rfl
        have hs := HS.out j _ _ (List.getElem?_eq_getElem (by omega)) (List.getElem?_eq_getElem hlt)
        have hv1 := HB.out _ (List.getElem_mem hlt)
        have hv0 := HB.out _ (List.getElem_mem (show j < m.length by omega))
        generalize m[j + 1] = c1 at *
        generalize m[j]'(by omega) = c0 at *
        go_wp2
        go_quiet (fail)
        go_wp2
        exact ⟨⟨j + 1, by simp, by omega, below_drewN hbl _⟩, by simp [intOf]; omega⟩
      · go_wp2_with fail
        have h5 := h4.next hbl
        refine (ref_In m _ n _ (by omega) ⟨_, _, rfl, HD1.out, HD2.out, hR.below hbl (Nat.le_refl _)⟩).mono ?_
        rintro e w5 ⟨rfl, hb5⟩
        have h6 := h5.next hb5
        clear h4 h5 hbl hb5 hR hj hlt hm
        rw [HI.out]
        have hc0 := h6.lo
        have hc1 := h6.hi
        cases hx : Sp.inB l n <;> cases hy : Sp.inB [(a, b)] n
        all_goals
          have HX := Lib.hid hx
          have HY := Lib.hid hy
          clear hx hy
          go_wp2_with fail
          clear hc0 hc1
          refine (spans_Add l HE.out (a, b) _ _ h6.row).mono ?_
          rintro e w7 ⟨v7, rfl, ho7, hb7⟩
          have h7 := h6.next hb7
          have n7 := SlR.of_owns encSp_len ho7
          clear h6 ho7 hb7
          go_wp2_with fail
          refine (ref_In _ _ n _ (add_len' l (a, b) HE.out) n7).mono ?_
          rintro e w8 ⟨rfl, hb8⟩
          have h8 := h7.next hb8
          clear h7 n7 hb8
          rw [HIa.out, HX.out, HY.out]
          have hc0 := h8.lo
          have hc1 := h8.hi
          go_wp2_with fail
          clear hc0 hc1
          refine (spans_Cut l (a, b) _ _ HE.out h8.row).mono ?_
          rintro e w9 ⟨v9, rfl, ho9, hb9⟩
          have h9 := h8.next hb9
          have n9 := SlR.of_owns encSp_len ho9
          clear h8 ho9 hb9
          go_wp2_with fail
          refine (ref_In _ _ n _ (cut_len' l (a, b) HE.out) n9).mono ?_
          rintro e w10 ⟨rfl, hb10⟩
          have h10 := h9.next hb10
          clear h9 n9 hb10
          rw [HIc.out, HX.out, HY.out]
          go_wp2_with fail
          go_ret
          exact ⟨rfl, h10.below⟩
  · have e1 : decide (30 < (l.length : Int)) = true := by simp; omega
    clear hlen hq1 hq2
    go_enter Try.func5, Try.ntmps5
    go_wp2_with fail
    refine (law11_awake _).mono ?_
    rintro e w1 ⟨rfl, hb1⟩
    obtain ⟨hc0, hc1, hz, hbA⟩ := box2 hb1
    clear hb1 hz hc0 hc1
    go_wp2_with fail
    go_ret
    exact ⟨rfl, hbA⟩
end Go.Proofs.Ytcioiiobjfblbaa
