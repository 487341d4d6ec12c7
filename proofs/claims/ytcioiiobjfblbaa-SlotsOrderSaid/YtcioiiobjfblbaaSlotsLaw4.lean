/- SlotsOrder. -/
import Derived.Test.YtcioiiobjfblbaaSlotsLaw3
namespace Go.Proofs.Ytcioiiobjfblbaa
set_option linter.unusedVariables false
set_option linter.unusedSimpArgs false
open Go.RowKit Go.Shelf Go.Proofs

theorem get_at {M : List Sl.It} (h : Sl.Rise M) {j : Nat} (hj : j < M.length) : getW M M[j].1 = M[j].2 ∧ Sl.hasB M M[j].1 = true := by
  have hm : (M[j].1, M[j].2) ∈ M := List.getElem_mem hj
  have hh := (Sl.has_iff h M[j].1).2 ⟨_, hm⟩
  exact ⟨by unfold getW; rw [hh]; exact Sl.got_of h hm, hh⟩
theorem TS.rise {B : Nat} {p : Value} {is : Bool} {room : Int} {M : List Sl.It} {w : World} (h : TS B p is room M w) : Sl.Rise M := by
  rcases h with ⟨h1, Bt, h2, h3⟩ | ⟨_, _, rfl⟩
  · exact h3.rise
  · exact List.Pairwise.nil
theorem rise_at {M : List Sl.It} (h : Sl.Rise M) {i : Nat} (hi : i + 1 < M.length) : M[i].1 < M[i + 1].1 := List.pairwise_iff_getElem.1 h i (i + 1) (by omega) hi (by omega)

set_option maxRecDepth 1000000 in
set_option maxHeartbeats 16000000 in
theorem law_order (rm : Int) (hr0 : 0 ≤ rm) (hr1 : rm ≤ 255) (script : List Sl.Slt) (v : Value) (w : World) (hv : SlR w 3 encSlt v script) :
    Calls Try.prog 10 #[.int .u8 rm, v] w fun e w' => e = .returned (.bool true) ∧ Below w.heap.size w w' := by
  obtain ⟨p, cap, rfl, hq1, hq2, hR⟩ := hv
  by_cases hlen : script.length ≤ 80
  · have e1 : decide (80 < (script.length : Int)) = false := by simp; omega
    have HR := Lib.hid hR
    clear hR hq1
    go_enter Try.func10, Try.ntmps10
    go_wp2_with fail
    refine (law13_awake _).mono ?_
    rintro e w1 ⟨rfl, hb1⟩
    go_wp2_with fail
    have hn1 : 1 ≤ rm % 20 + 1 ∧ rm % 20 + 1 ≤ 20 := by omega
    refine (slots_New (rm % 20 + 1) w1 hn1.1 (by omega)).mono ?_
    rintro e w2 ⟨Bt, rfl, hT, hb2⟩
    have hz1 := hb1.size
    have h2 : TS w1.heap.size (.pointer (some ⟨Bt, 0, none⟩)) true (rm % 20 + 1) [] w2 := .inl ⟨rfl, Bt, rfl, hT⟩
    have hb02 : Below w.heap.size w w2 := hb1.trans (hb2.mono hz1)
    have hz2 := hb2.size
    generalize hn : rm % 20 + 1 = n at hn1 h2 ⊢
    clear hb1 hb2 hT e1 hn hr0 hr1
    go_wp2_with fail
    go_loopw [8] (fun i wr => ∃ (k : Nat) (M : List Sl.It), i = .int .i64 k ∧ k ≤ script.length ∧ TS w1.heap.size (.pointer (some ⟨Bt, 0, none⟩)) true n M wr ∧ Below w.heap.size w wr ∧ w1.heap.size ≤ wr.heap.size) (fun i _ => script.length - (intOf i).toNat)
    case atStart => exact ⟨0, [], rfl, Nat.zero_le _, h2, hb02, hz2⟩
    case round =>
      clear h2 hb02 hz2
      obtain ⟨k, M, rfl, hk, hts, hbl, hz⟩ := hrel
      have HT := Lib.hid hts
      have HB := Lib.hid hbl
      by_cases hlt : k < script.length
      · obtain ⟨b, off, rfl, hbs, h3⟩ := (HR.out.below hbl (Nat.le_refl _)).at hlt
        obtain ⟨⟨kd, lab, va⟩, hx⟩ : ∃ x, x = script[k] := ⟨_, rfl⟩
        rw [← hx] at h3
        have x0 : wr.cell? ⟨b, off + k * 3, none⟩ = some (.int .i64 kd) := h3 0 _ rfl
        have x1 : wr.cell? ⟨b, off + k * 3 + 1, none⟩ = some (.int .i64 lab) := h3 1 _ rfl
        have x2 : wr.cell? ⟨b, off + k * 3 + 2, none⟩ = some (.int .i64 va) := h3 2 _ rfl
        clear hx h3 hts hbl
        by_cases hk1 : kd = 1
        · subst hk1
          go_wp2_with fail
          refine (del_any w1.heap.size _ true n M lab _ HT.out hz).mono ?_
          rintro e w4 ⟨rfl, h4, _, hb4⟩
          clear x0 x1 x2
          go_wp2
          exact ⟨⟨k + 1, _, by simp, by omega, h4, HB.out.trans (hb4.mono hz1), Nat.le_trans hz hb4.size⟩, by simp [intOf]; omega⟩
        · have n1 : (kd == 1) = false := by simpa using hk1
          go_wp2_with fail
          go_still_tail 11, (by kernel_rfl)
          change wpList _ _ _ _ _ wr.drew
          go_wp2_with fail
          refine (put_any w1.heap.size _ true n M lab va _ (HT.out.below (Below.refl _ _).drew) hz).mono ?_
          rintro e w4 ⟨rfl, h4, _, hb4⟩
          clear x0 x1 x2 n1
          go_wp2
          exact ⟨⟨k + 1, _, by simp, by omega, h4, HB.out.trans (((Below.refl _ _).drew.trans hb4).mono hz1), Nat.le_trans hz hb4.size⟩, by simp [intOf]; omega⟩
      · have HAl := Lib.hid (all_any _ _ true n M _ hts)
        have hML := hts.len
        have HRi := Lib.hid hts.rise
        have hfit : (M.length : Int) ≤ n := by
          rcases hts with ⟨_, Bt', _, h3⟩ | ⟨h, _⟩
          · exact h3.fits.1
          · cases h
        clear hts hbl
        go_wp2_with fail
        refine HAl.out.mono ?_
        rintro e w7 ⟨v7, rfl, ho, hb7⟩
        obtain ⟨p7, c7, rfl, hd1, hd2, hR7⟩ := SlR.of_owns encIt_len ho
        have H7 := Lib.hid (HT.out.below hb7)
        have HB7 := Lib.hid (HB.out.trans (hb7.mono HB.out.size))
        clear ho hb7 hd1 hd2
        go_wp2_with fail
        go_loopw [10] (fun i wr => ∃ k : Nat, i = .int .i64 k ∧ k ≤ M.length ∧ Below w7.heap.size w7 wr) (fun i _ => M.length - (intOf i).toNat)
        case atStart => exact ⟨0, rfl, Nat.zero_le _, Below.refl _ _⟩
        case round =>
          obtain ⟨j, rfl, hj, hbl⟩ := hrel
          by_cases hjl : j < M.length
          · have hRw := hR7.below hbl (Nat.le_refl _)
            obtain ⟨b1, o1, rfl, hbb, y3⟩ := hRw.at hjl
            have HRw := Lib.hid hRw
            obtain ⟨hgv, hgb⟩ := get_at HRi.out hjl
            obtain ⟨⟨m1, m2⟩, hm⟩ : ∃ m, m = M[j] := ⟨_, rfl⟩
            rw [← hm] at y3 hgv hgb
            simp only at hgv hgb
            have y0 : wr.cell? ⟨b1, o1 + j * 2, none⟩ = some (Value.int .i64 m1) := y3 0 _ rfl
            have y1 : wr.cell? ⟨b1, o1 + j * 2 + 1, none⟩ = some (Value.int .i64 m2) := y3 1 _ rfl
            have HGt := Lib.hid (get_any _ _ true n M m1 _ (H7.out.below (hbl.mono (Nat.le_refl _))))
            rw [hgv, hgb] at HGt
            have HBL := Lib.hid hbl
            have Y0 := Lib.hid y0
            have Y1 := Lib.hid y1
            have HM := Lib.hid hm
            clear y3 hm hRw hgv hgb hbl y1
            go_wp2_with fail
            refine HGt.out.mono ?_
            rintro e w9 ⟨rfl, hb9⟩
            have z0 := (hb9.cell (p := ⟨b1, o1 + j * 2, none⟩) hbb).trans Y0.out
            have z1 := (hb9.cell (p := ⟨b1, o1 + j * 2 + 1, none⟩) hbb).trans Y1.out
            have HB9 : Hid (Below w7.heap.size w7 w9) := Lib.hid (HBL.out.trans (hb9.mono HBL.out.size))
            clear y0
            cases j with
            | zero =>
              have d0 : decide ((0 : Int) < ((0 : Nat) : Int)) = false := by decide
              clear hb9 hR7
              go_wp2_with fail
              go_quiet (fail)
              go_wp2
              exact ⟨⟨1, by simp, by omega, below_drewN HB9.out _⟩, by simp [intOf]; omega⟩
            | succ j =>
              obtain ⟨⟨l1, l2⟩, hlm⟩ : ∃ m, m = M[j] := ⟨_, rfl⟩
              have hlt' : l1 < m1 := by
                have := rise_at HRi.out hjl
                rw [← hlm, ← HM.out] at this
                exact this
              have x0 : w9.cell? ⟨b1, o1 + j * 2, none⟩ = some (Value.int .i64 l1) := by
                have := (hb9.cell (p := ⟨b1, o1 + j * 2, none⟩) hbb).trans (HRw.out.in (i := j) (by omega) 0 (.int .i64 l1) (by rw [← hlm]; rfl))
                exact this
              have d1 : decide ((m1 : Int) ≤ l1) = false := by simp; omega
              have d0 : decide ((0 : Int) < ((j + 1 : Nat) : Int)) = true := decide_eq_true (by omega)
              clear hb9 hR7 hlm
              go_wp2_with fail
              go_quiet (fail)
              go_wp2
              exact ⟨⟨j + 1 + 1, by simp, by omega, below_drewN HB9.out _⟩, by simp [intOf]; omega⟩
          · have dl : decide ((M.length : Int) ≤ n) = true := by simpa using hfit
            have HL7 := Lib.hid (len_any _ _ true n M _ (H7.out.below (hbl.mono (Nat.le_refl _))))
            have HBL := Lib.hid hbl
            clear hR7 hbl
            go_wp2_with fail
            refine HL7.out.mono ?_
            rintro e w9 ⟨rfl, rfl⟩
            go_wp2
            go_ret
            exact ⟨rfl, HB7.out.trans (HBL.out.mono HB7.out.size)⟩
  · have e1 : decide (80 < (script.length : Int)) = true := by simp; omega
    clear hR hq1
    go_enter Try.func10, Try.ntmps10
    go_wp2_with fail
    refine (law13_awake _).mono ?_
    rintro e w1 ⟨rfl, hb1⟩
    go_wp2_with fail
    go_ret
    exact ⟨rfl, hb1⟩
end Go.Proofs.Ytcioiiobjfblbaa
