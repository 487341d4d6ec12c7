/- The walks of footplateref11's answers over Norm. -/
import Derived.Test.YtbeombmblifohaaSpansRef
namespace Go.Proofs.Ytbeombmblifohaa
set_option linter.unusedVariables false
set_option linter.unusedSimpArgs false
open Go.RowKit

theorem run_neq_sp (s t : Sp.S) (w : World) : (binOp .neq 27 (.agg #[.int .i64 s.1, .int .i64 s.2]) (.agg #[.int .i64 t.1, .int .i64 t.2])).run Try.prog w = .ok (.bool (!decide (s = t))) w := by
  have u3 := Try.underlying3
  have a3 := Try.isAgg3
  have z3 := Try.sizeOf3
  have hS : Try.prog.underlying 27 = some (.struct (Try.prog.fieldsOf 27)) := by kernel_rfl
  have hp : Try.prog.stoodInHeld 27 = false := by kernel_rfl
  obtain ⟨a, b⟩ := s
  obtain ⟨c, d⟩ := t
  rw [run_neq_struct, show (10000 : Nat) = 9999 + 1 from rfl, run_equalIn_agg w 9999 27 _ _ hS hp]
  simp only [Program.fieldsOf, Try.underlying27]
  go_simp
  by_cases h1 : a = c <;> by_cases h2 : b = d <;> simp [h1, h2]

set_option maxHeartbeats 1000000 in
theorem ref_Same (a b : List Sp.S) (va vb : Value) (w : World) (ha : a.length ≤ 1073741824) (hva : SlR w 2 encSp va a) (hvb : SlR w 2 encSp vb b) :
    Calls Try.prog 34 #[va, vb] w fun e w' => e = .returned (.bool (decide (a = b))) ∧ Below w.heap.size w w' := by
  obtain ⟨p, cap, rfl, hc1, hc2, hR⟩ := hva
  obtain ⟨p', cap', rfl, hc1', hc2', hR'⟩ := hvb
  have HF : Hid (∀ r, (r = true ↔ a = b) → decide (a = b) = r) := fun r h => by cases r <;> simp_all
  generalize decide (a = b) = r at HF ⊢
  by_cases hlen : a.length = b.length
  · have HL := Lib.hid hlen
    have e1 : ((a.length : Int) != (b.length : Int)) = false := by simp [hlen]
    clear hlen
    go_enter Try.func34, Try.ntmps34
    go_wp2
    go_loopw [5] (fun i wr => ∃ k : Nat, k ≤ a.length ∧ i = .int .i64 k ∧ Hid (a.take k = b.take k) ∧ Below w.heap.size w wr) (fun i _ => a.length - (intOf i).toNat)
    case atStart => exact ⟨0, Nat.zero_le _, rfl, Lib.hid (by simp), Below.refl _ _⟩
    case round =>
      obtain ⟨k, hk, rfl, H, hbl⟩ := hrel
      by_cases hlt : k < a.length
      · have hlt' : k < b.length := by rw [← HL.out]; exact hlt
        obtain ⟨g, off, rfl, hbs, hx0, hx1⟩ := (hR.below hbl (Nat.le_refl _)).at2 hlt
        obtain ⟨g', off', rfl, hbs', hy0, hy1⟩ := (hR'.below hbl (Nat.le_refl _)).at2 hlt'
        have H1 := Lib.hid (List.take_succ_eq_append_getElem hlt)
        have H2 := Lib.hid (List.take_succ_eq_append_getElem hlt')
        have hneq := run_neq_sp a[k] b[k]
        by_cases hab : a[k] = b[k]
        · have HA := Lib.hid hab
          simp only [hab, decide_true, Bool.not_true] at hneq
          rw [← hab] at hneq hy0 hy1
          clear hab
          go_wp2
          go_quiet (fail)
          go_wp2
          exact ⟨⟨k + 1, by omega, by go_num, Lib.hid (by rw [H1.out, H2.out, H.out, HA.out]), below_drewN hbl _⟩, by simp [intOf]; omega⟩
        · have HA := Lib.hid hab
          simp only [hab, decide_false, Bool.not_false] at hneq
          clear hab
          go_wp2
          go_quiet (fail)
          go_wp2
          go_ret
          exact ⟨ret_bool (HF.out false (by simp; intro h; exact HA.out (by simp only [h]))).symm, below_drewN hbl _⟩
      · go_wp2
        go_ret
        have e : a = b := by
          have := H.out
          rwa [List.take_of_length_le (by omega), List.take_of_length_le (by have := HL.out; omega)] at this
        exact ⟨ret_bool (HF.out true (by simp [e])).symm, hbl⟩
  · have HL := Lib.hid hlen
    have e1 : ((a.length : Int) != (b.length : Int)) = true := by simp; omega
    clear hlen
    go_enter Try.func34, Try.ntmps34
    go_wp2
    go_ret
    exact ⟨ret_bool (HF.out false (by simp; intro h; exact HL.out (by rw [h]))).symm, Below.refl _ _⟩

set_option maxHeartbeats 1000000 in
theorem ref_Count (l : List Sp.S) (v : Value) (w : World) (hl : l.length ≤ 1073741824) (hv : SlR w 2 encSp v l) :
    Calls Try.prog 19 #[v] w fun e w' => e = .returned (.int .i64 (Sp.count l)) ∧ Below w.heap.size w w' := by
  obtain ⟨p, cap, rfl, hc1, hc2, hR⟩ := hv
  have hml := Sp.norm_length l
  have HM := Lib.hid (Sp.norm_ok l).1.may
  unfold Sp.count
  have hcon := ref_Norm l (.slice p l.length cap) w hl ⟨p, cap, rfl, hc1, hc2, hR⟩
  generalize Sp.norm l = m at hcon HM hml ⊢
  go_enter Try.func19, Try.ntmps19
  go_wp2_with (go_at_call 39; refine hcon.mono ?_; rintro e w1 ⟨v1, rfl, hrow, hb1⟩)
  obtain ⟨p1, c1, rfl, hd1, hd2, hR1⟩ := owns_sp hrow
  clear hcon
  go_loopw [4, 5] (fun s i wr => ∃ k : Nat, k ≤ m.length ∧ i = .int .i64 k ∧ s = .int .i64 (Sp.total (m.take k)) ∧ Below w1.heap.size w1 wr) (fun _ i _ => m.length - (intOf i).toNat)
  case atStart => exact ⟨0, Nat.zero_le _, rfl, rfl, Below.refl _ _⟩
  case round =>
    obtain ⟨k, hk, rfl, rfl, hbl⟩ := hrel
    obtain ⟨ht1, ht2⟩ := Sp.total_take_bd HM.out k hk
    by_cases hlt : k < m.length
    · obtain ⟨g, off, rfl, hbs, hx0, hx1⟩ := (hR1.below hbl (Nat.le_refl _)).at2 hlt
      have hmay := Sp.mayB_iff.1 (HM.out _ (List.getElem_mem hlt))
      have HT := Lib.hid (Sp.total_take hlt)
      obtain ⟨hm1, hm2, hm3⟩ := hmay
      generalize Sp.total (m.take k) = t at ht1 ht2 HT ⊢
      have e1 : IntKind.i64.wrap (m[k].2 - m[k].1) = m[k].2 - m[k].1 := IntWalk.i64_in _ (by omega)
      have e2 : IntKind.i64.wrap (m[k].2 - m[k].1 + 1) = m[k].2 - m[k].1 + 1 := IntWalk.i64_in _ (by omega)
      have e3 : IntKind.i64.wrap (t + (m[k].2 - m[k].1 + 1)) = t + (m[k].2 - m[k].1 + 1) := IntWalk.i64_in _ (by omega)
      go_wp2
      go_quiet (fail)
      clear e1 e2 e3
      go_wp2
      exact ⟨⟨k + 1, by omega, by go_num, by rw [HT.out]; rfl, below_drewN hbl _⟩, by simp [intOf]; omega⟩
    · go_wp2
      go_ret
      exact ⟨ret_int (by rw [List.take_of_length_le (by omega)]), hb1.trans (hbl.mono hb1.size)⟩

set_option maxHeartbeats 1000000 in
theorem ref_Longest (l : List Sp.S) (v : Value) (w : World) (hl : l.length ≤ 1073741824) (hv : SlR w 2 encSp v l) :
    Calls Try.prog 20 #[v] w fun e w' => e = .returned (.int .i64 (Sp.longest l)) ∧ Below w.heap.size w w' := by
  obtain ⟨p, cap, rfl, hc1, hc2, hR⟩ := hv
  have hml := Sp.norm_length l
  have HM := Lib.hid (Sp.norm_ok l).1.may
  unfold Sp.longest
  have hcon := ref_Norm l (.slice p l.length cap) w hl ⟨p, cap, rfl, hc1, hc2, hR⟩
  generalize Sp.norm l = m at hcon HM hml ⊢
  go_enter Try.func20, Try.ntmps20
  go_wp2_with (go_at_call 39; refine hcon.mono ?_; rintro e w1 ⟨v1, rfl, hrow, hb1⟩)
  obtain ⟨p1, c1, rfl, hd1, hd2, hR1⟩ := owns_sp hrow
  clear hcon
  go_loopw [4, 5] (fun s i wr => ∃ k : Nat, k ≤ m.length ∧ i = .int .i64 k ∧ s = .int .i64 (Sp.most (m.take k)) ∧ Below w1.heap.size w1 wr) (fun _ i _ => m.length - (intOf i).toNat)
  case atStart => exact ⟨0, Nat.zero_le _, rfl, rfl, Below.refl _ _⟩
  case round =>
    obtain ⟨k, hk, rfl, rfl, hbl⟩ := hrel
    obtain ⟨ht1, ht2⟩ := Sp.most_bd (l := m.take k) fun s hs => HM.out s (List.mem_of_mem_take hs)
    by_cases hlt : k < m.length
    · obtain ⟨g, off, rfl, hbs, hx0, hx1⟩ := (hR1.below hbl (Nat.le_refl _)).at2 hlt
      have hmay := Sp.mayB_iff.1 (HM.out _ (List.getElem_mem hlt))
      have HT := Lib.hid (Sp.most_take hlt)
      obtain ⟨hm1, hm2, hm3⟩ := hmay
      generalize Sp.most (m.take k) = t at ht1 ht2 HT ⊢
      have e1 : IntKind.i64.wrap (m[k].2 - m[k].1) = m[k].2 - m[k].1 := IntWalk.i64_in _ (by omega)
      have e2 : IntKind.i64.wrap (m[k].2 - m[k].1 + 1) = m[k].2 - m[k].1 + 1 := IntWalk.i64_in _ (by omega)
      by_cases hc : t < m[k].2 - m[k].1 + 1
      all_goals
        go_wp2
        go_quiet (fail)
        clear e1 e2
        go_wp2
        exact ⟨⟨k + 1, by omega, by go_num, by rw [HT.out]; exact ret_v (by unfold Sp.size; omega), below_drewN hbl _⟩, by simp [intOf]; omega⟩
    · go_wp2
      go_ret
      exact ⟨ret_int (by rw [List.take_of_length_le (by omega)]), hb1.trans (hbl.mono hb1.size)⟩

/-- a parameter of two ints in its box, read after a call -/
theorem box2 {w w1 : World} {x y : Value} {t : TypeId} (hb : Below (w.alloc (.cells #[x, y] t)).heap.size (w.alloc (.cells #[x, y] t)) w1) :
    w1.cell? ⟨w.heap.size, 0, none⟩ = some x ∧ w1.cell? ⟨w.heap.size, 1, none⟩ = some y ∧ w.heap.size < w1.heap.size ∧ Below w.heap.size w w1 := by
  have h0 := cell_of_row (w.alloc (.cells #[x, y] t)) w.heap.size 0 #[x, y] t (0, 0) (heap_alloc_new w _)
  have h1 := cell_of_row (w.alloc (.cells #[x, y] t)) w.heap.size 1 #[x, y] t (0, 0) (heap_alloc_new w _)
  have hs := hb.size
  simp at hs
  exact ⟨(hb.cell (p := ⟨w.heap.size, 0, none⟩) (by simp)).trans h0, (hb.cell (p := ⟨w.heap.size, 1, none⟩) (by simp)).trans h1, by omega, ((Below.refl _ _).alloc (Nat.le_refl _) _).trans (hb.mono (by simp))⟩

set_option maxHeartbeats 2000000 in
theorem ref_Has (l : List Sp.S) (s : Sp.S) (v : Value) (w : World) (hl : l.length ≤ 1073741824) (hv : SlR w 2 encSp v l) :
    Calls Try.prog 54 #[v, .agg #[.int .i64 s.1, .int .i64 s.2]] w fun e w' => e = .returned (.bool (Sp.has l s)) ∧ Below w.heap.size w w' := by
  obtain ⟨p, cap, rfl, hc1, hc2, hR⟩ := hv
  obtain ⟨a, b⟩ := s
  have hml := Sp.norm_length l
  have hcon : ∀ W, Below w.heap.size w W → Calls Try.prog 39 #[.slice p l.length cap] W (RetRow W.heap.size 27 2 (Sp.norm l).length (flat encSp (Sp.norm l)) W) := fun W hW => ref_Norm l (.slice p l.length cap) W hl ⟨p, cap, rfl, hc1, hc2, hR.below hW (Nat.le_refl _)⟩
  have HF : Hid (∀ r, (r = true ↔ Sp.mayB (a, b) = true ∧ ∃ s ∈ Sp.norm l, s.1 ≤ a ∧ b ≤ s.2) → Sp.has l (a, b) = r) := fun r h => by
    have : Sp.has l (a, b) = true ↔ r = true := by rw [h]; simp [Sp.has]
    cases r <;> simp_all
  generalize Sp.has l (a, b) = r at HF ⊢
  generalize Sp.norm l = m at hcon HF hml ⊢
  have HC := Lib.hid hcon
  clear hcon
  cases hm : Sp.mayB (a, b)
  · go_enter Try.func54, Try.ntmps54
    go_wp2_with fail
    refine (HC.out _ ((Below.refl _ _).alloc (Nat.le_refl _) _)).mono ?_
    rintro e w1 ⟨v1, rfl, hrow, hb1⟩
    obtain ⟨hp0, hp1, hz1, hbw⟩ := box2 hb1
    go_wp2_with fail
    refine (ref_may_no _ _ hm).mono ?_
    rintro e w2 ⟨rfl, hb2⟩
    have hq0 := (hb2.cell (p := ⟨w.heap.size, 0, none⟩) hz1).trans hp0
    have hq1 := (hb2.cell (p := ⟨w.heap.size, 1, none⟩) hz1).trans hp1
    have hz := Nat.lt_of_lt_of_le hz1 hb2.size
    have hb3 := hbw.trans (hb2.mono hbw.size)
    have hsl := owns_sp (owns_below hrow hb2 (Nat.le_refl _))
    clear hrow hb1 hb2 hp0 hp1 hbw
    go_wp2
    obtain ⟨p1, c1, rfl, hd1, hd2, hR1⟩ := hsl
    go_loopw [7] (fun i wr => ∃ k : Nat, k ≤ m.length ∧ i = .int .i64 k ∧ Below w.heap.size w wr) (fun i _ => m.length - (intOf i).toNat)
    case atStart => exact ⟨0, Nat.zero_le _, rfl, hb3⟩
    case round =>
      obtain ⟨k, hk, rfl, hbl⟩ := hrel
      by_cases hlt : k < m.length
      · go_wp2
        go_quiet (fail)
        go_wp2
        exact ⟨⟨k + 1, by omega, by go_num, below_drewN hbl _⟩, by simp [intOf]; omega⟩
      · go_wp2
        go_ret
        exact ⟨ret_bool (HF.out false (by simp [hm])).symm, hbl⟩
  · go_enter Try.func54, Try.ntmps54
    go_wp2_with fail
    refine (HC.out _ ((Below.refl _ _).alloc (Nat.le_refl _) _)).mono ?_
    rintro e w1 ⟨v1, rfl, hrow, hb1⟩
    obtain ⟨hp0, hp1, hz1, hbw⟩ := box2 hb1
    go_wp2_with fail
    refine (ref_may_yes _ _ hm).mono ?_
    rintro e w2 ⟨rfl, hb2⟩
    have hq0 := (hb2.cell (p := ⟨w.heap.size, 0, none⟩) hz1).trans hp0
    have hq1 := (hb2.cell (p := ⟨w.heap.size, 1, none⟩) hz1).trans hp1
    have hz := Nat.lt_of_lt_of_le hz1 hb2.size
    have hb3 := hbw.trans (hb2.mono hbw.size)
    have hsl := owns_sp (owns_below hrow hb2 (Nat.le_refl _))
    clear hrow hb1 hb2 hp0 hp1 hbw
    go_wp2
    obtain ⟨p1, c1, rfl, hd1, hd2, hR1⟩ := hsl
    have hW := Lib.hid hb3
    go_loopw [7] (fun i wr => ∃ k : Nat, k ≤ m.length ∧ i = .int .i64 k ∧ Hid (∀ s ∈ m.take k, ¬ (s.1 ≤ a ∧ b ≤ s.2)) ∧ Below w2.heap.size w2 wr) (fun i _ => m.length - (intOf i).toNat)
    case atStart => exact ⟨0, Nat.zero_le _, rfl, Lib.hid (by simp), Below.refl _ _⟩
    case round =>
      obtain ⟨k, hk, rfl, H, hbl⟩ := hrel
      have hbe : ∀ n, Below w.heap.size w (wr.drewN n) := fun n => hW.out.trans (below_drewN (hbl.mono hW.out.size) n)
      by_cases hlt : k < m.length
      · obtain ⟨g, off, rfl, hbs, hx0, hx1⟩ := (hR1.below hbl (Nat.le_refl _)).at2 hlt
        have q0 : wr.cell? ⟨w.heap.size, 0, none⟩ = some (.int .i64 a) := (hbl.cell (p := ⟨w.heap.size, 0, none⟩) hz).trans hq0
        have q1 : wr.cell? ⟨w.heap.size, 1, none⟩ = some (.int .i64 b) := (hbl.cell (p := ⟨w.heap.size, 1, none⟩) hz).trans hq1
        have HT : Hid (∀ x, x ∈ m.take (k + 1) ↔ x ∈ m.take k ∨ x = m[k]) := fun x => Sp.mem_take hlt
        by_cases h1 : m[k].1 ≤ a
        · by_cases h2 : b ≤ m[k].2
          · have d1 : decide (m[k].1 ≤ a) = true := by simpa using h1
            have d2 : decide (b ≤ m[k].2) = true := by simpa using h2
            go_wp2
            go_quiet (fail)
            go_wp2
            go_ret
            exact ⟨ret_bool (HF.out true (by simp only [hm, true_iff, true_and]; exact ⟨_, List.getElem_mem hlt, h1, h2⟩)).symm, hbe _⟩
          · have d1 : decide (m[k].1 ≤ a) = true := by simpa using h1
            have d2 : decide (b ≤ m[k].2) = false := by simpa using h2
            go_wp2
            go_quiet (fail)
            go_wp2
            exact ⟨⟨k + 1, by omega, by go_num, Lib.hid (fun s hs => by rcases (HT.out s).1 hs with hs | rfl; exact H.out s hs; omega), below_drewN hbl _⟩, by simp [intOf]; omega⟩
        · have d1 : decide (m[k].1 ≤ a) = false := by simpa using h1
          go_wp2
          go_quiet (fail)
          go_wp2
          exact ⟨⟨k + 1, by omega, by go_num, Lib.hid (fun s hs => by rcases (HT.out s).1 hs with hs | rfl; exact H.out s hs; omega), below_drewN hbl _⟩, by simp [intOf]; omega⟩
      · go_wp2
        go_ret
        have := H.out
        rw [List.take_of_length_le (by omega)] at this
        exact ⟨ret_bool (HF.out false (by simp only [Bool.false_eq_true, false_iff]; rintro ⟨_, s, hs, h⟩; exact this s hs h)).symm, hbe 0⟩

set_option maxHeartbeats 2000000 in
theorem ref_Meets (l : List Sp.S) (s : Sp.S) (v : Value) (w : World) (hl : l.length ≤ 1073741824) (hv : SlR w 2 encSp v l) :
    Calls Try.prog 17 #[v, .agg #[.int .i64 s.1, .int .i64 s.2]] w fun e w' => e = .returned (.bool (Sp.meets l s)) ∧ Below w.heap.size w w' := by
  obtain ⟨p, cap, rfl, hc1, hc2, hR⟩ := hv
  obtain ⟨a, b⟩ := s
  have hml := Sp.norm_length l
  have hcon : ∀ W, Below w.heap.size w W → Calls Try.prog 39 #[.slice p l.length cap] W (RetRow W.heap.size 27 2 (Sp.norm l).length (flat encSp (Sp.norm l)) W) := fun W hW => ref_Norm l (.slice p l.length cap) W hl ⟨p, cap, rfl, hc1, hc2, hR.below hW (Nat.le_refl _)⟩
  have HF : Hid (∀ r, (r = true ↔ Sp.mayB (a, b) = true ∧ ∃ s ∈ Sp.norm l, s.1 ≤ b ∧ a ≤ s.2) → Sp.meets l (a, b) = r) := fun r h => by
    have : Sp.meets l (a, b) = true ↔ r = true := by rw [h]; simp [Sp.meets]
    cases r <;> simp_all
  generalize Sp.meets l (a, b) = r at HF ⊢
  generalize Sp.norm l = m at hcon HF hml ⊢
  have HC := Lib.hid hcon
  clear hcon
  cases hm : Sp.mayB (a, b)
  · go_enter Try.func17, Try.ntmps17
    go_wp2_with fail
    refine (ref_may_no _ _ hm).mono ?_
    rintro e w1 ⟨rfl, hb1⟩
    obtain ⟨hp0, hp1, hz1, hbw⟩ := box2 hb1
    go_wp2_with fail
    refine (HC.out _ hbw).mono ?_
    rintro e w2 ⟨v1, rfl, hrow, hb2⟩
    have hq0 := (hb2.cell (p := ⟨w.heap.size, 0, none⟩) hz1).trans hp0
    have hq1 := (hb2.cell (p := ⟨w.heap.size, 1, none⟩) hz1).trans hp1
    have hz := Nat.lt_of_lt_of_le hz1 hb2.size
    have hb3 := hbw.trans (hb2.mono hbw.size)
    have hsl := owns_sp hrow
    clear hrow hb1 hb2 hp0 hp1 hbw
    go_wp2
    obtain ⟨p1, c1, rfl, hd1, hd2, hR1⟩ := hsl
    go_loopw [7] (fun i wr => ∃ k : Nat, k ≤ m.length ∧ i = .int .i64 k ∧ Below w.heap.size w wr) (fun i _ => m.length - (intOf i).toNat)
    case atStart => exact ⟨0, Nat.zero_le _, rfl, hb3⟩
    case round =>
      obtain ⟨k, hk, rfl, hbl⟩ := hrel
      by_cases hlt : k < m.length
      · go_wp2
        go_quiet (fail)
        go_wp2
        exact ⟨⟨k + 1, by omega, by go_num, below_drewN hbl _⟩, by simp [intOf]; omega⟩
      · go_wp2
        go_ret
        exact ⟨ret_bool (HF.out false (by simp [hm])).symm, hbl⟩
  · go_enter Try.func17, Try.ntmps17
    go_wp2_with fail
    refine (ref_may_yes _ _ hm).mono ?_
    rintro e w1 ⟨rfl, hb1⟩
    obtain ⟨hp0, hp1, hz1, hbw⟩ := box2 hb1
    go_wp2_with fail
    refine (HC.out _ hbw).mono ?_
    rintro e w2 ⟨v1, rfl, hrow, hb2⟩
    have hq0 := (hb2.cell (p := ⟨w.heap.size, 0, none⟩) hz1).trans hp0
    have hq1 := (hb2.cell (p := ⟨w.heap.size, 1, none⟩) hz1).trans hp1
    have hz := Nat.lt_of_lt_of_le hz1 hb2.size
    have hb3 := hbw.trans (hb2.mono hbw.size)
    have hsl := owns_sp hrow
    clear hrow hb1 hb2 hp0 hp1 hbw
    go_wp2
    obtain ⟨p1, c1, rfl, hd1, hd2, hR1⟩ := hsl
    have hW := Lib.hid hb3
    go_loopw [7] (fun i wr => ∃ k : Nat, k ≤ m.length ∧ i = .int .i64 k ∧ Hid (∀ s ∈ m.take k, ¬ (s.1 ≤ b ∧ a ≤ s.2)) ∧ Below w2.heap.size w2 wr) (fun i _ => m.length - (intOf i).toNat)
    case atStart => exact ⟨0, Nat.zero_le _, rfl, Lib.hid (by simp), Below.refl _ _⟩
    case round =>
      obtain ⟨k, hk, rfl, H, hbl⟩ := hrel
      have hbe : ∀ n, Below w.heap.size w (wr.drewN n) := fun n => hW.out.trans (below_drewN (hbl.mono hW.out.size) n)
      by_cases hlt : k < m.length
      · obtain ⟨g, off, rfl, hbs, hx0, hx1⟩ := (hR1.below hbl (Nat.le_refl _)).at2 hlt
        have q0 : wr.cell? ⟨w.heap.size, 0, none⟩ = some (.int .i64 a) := (hbl.cell (p := ⟨w.heap.size, 0, none⟩) hz).trans hq0
        have q1 : wr.cell? ⟨w.heap.size, 1, none⟩ = some (.int .i64 b) := (hbl.cell (p := ⟨w.heap.size, 1, none⟩) hz).trans hq1
        have HT : Hid (∀ x, x ∈ m.take (k + 1) ↔ x ∈ m.take k ∨ x = m[k]) := fun x => Sp.mem_take hlt
        by_cases h1 : m[k].1 ≤ b
        · by_cases h2 : a ≤ m[k].2
          · have d1 : decide (m[k].1 ≤ b) = true := by simpa using h1
            have d2 : decide (a ≤ m[k].2) = true := by simpa using h2
            go_wp2
            go_quiet (fail)
            go_wp2
            go_ret
            exact ⟨ret_bool (HF.out true (by simp only [hm, true_iff, true_and]; exact ⟨_, List.getElem_mem hlt, h1, h2⟩)).symm, hbe _⟩
          · have d1 : decide (m[k].1 ≤ b) = true := by simpa using h1
            have d2 : decide (a ≤ m[k].2) = false := by simpa using h2
            go_wp2
            go_quiet (fail)
            go_wp2
            exact ⟨⟨k + 1, by omega, by go_num, Lib.hid (fun s hs => by rcases (HT.out s).1 hs with hs | rfl; exact H.out s hs; omega), below_drewN hbl _⟩, by simp [intOf]; omega⟩
        · have d1 : decide (m[k].1 ≤ b) = false := by simpa using h1
          go_wp2
          go_quiet (fail)
          go_wp2
          exact ⟨⟨k + 1, by omega, by go_num, Lib.hid (fun s hs => by rcases (HT.out s).1 hs with hs | rfl; exact H.out s hs; omega), below_drewN hbl _⟩, by simp [intOf]; omega⟩
      · go_wp2
        go_ret
        have := H.out
        rw [List.take_of_length_le (by omega)] at this
        exact ⟨ret_bool (HF.out false (by simp only [Bool.false_eq_true, false_iff]; rintro ⟨_, s, hs, h⟩; exact this s hs h)).symm, hbe 0⟩


def RetSpOk (r : Sp.S × Bool) (w : World) (e : Ending) (w' : World) : Prop := e = .returned (.tuple #[.agg #[.int .i64 r.1.1, .int .i64 r.1.2], .bool r.2]) ∧ Below w.heap.size w w'

theorem Sp.first_hit {m : List Sp.S} {k : Nat} (h : k < m.length) {q : Sp.S → Bool} (h0 : ∀ s ∈ m.take k, q s = false) (h1 : q m[k] = true) : m.find? q = some m[k] := by
  have hs : m.take k ++ m[k] :: m.drop (k + 1) = m := by rw [List.getElem_cons_drop, List.take_append_drop]
  have h2 : (m.take k).find? q = none := by simpa using h0
  have h3 : (m.take k ++ m[k] :: m.drop (k + 1)).find? q = some m[k] := by
    rw [List.find?_append, h2, List.find?_cons]
    simp [h1]
  rwa [hs] at h3

set_option maxHeartbeats 2000000 in
theorem ref_First (l : List Sp.S) (many : Int) (v : Value) (w : World) (hmin : -9223372036854775808 ≤ many) (hmax : many ≤ 9223372036854775807) (hl : l.length ≤ 1073741824) (hv : SlR w 2 encSp v l) :
    Calls Try.prog 23 #[v, .int .i64 many] w (RetSpOk (Sp.first l many) w) := by
  obtain ⟨p, cap, rfl, hc1, hc2, hR⟩ := hv
  have hml := Sp.norm_length l
  have HM := Lib.hid (Sp.norm_ok l).1.may
  have hcon : ∀ W, Below w.heap.size w W → Calls Try.prog 39 #[.slice p l.length cap] W (RetRow W.heap.size 27 2 (Sp.norm l).length (flat encSp (Sp.norm l)) W) := fun W hW => ref_Norm l (.slice p l.length cap) W hl ⟨p, cap, rfl, hc1, hc2, hR.below hW (Nat.le_refl _)⟩
  have HF : Hid (∀ k (h : k < (Sp.norm l).length), 1 ≤ many → (∀ s ∈ (Sp.norm l).take k, Sp.size s < many) → many ≤ Sp.size (Sp.norm l)[k] → Sp.first l many = (((Sp.norm l)[k].1, (Sp.norm l)[k].1 + many - 1), true)) := fun k h hm h0 h1 => by
    unfold Sp.first
    rw [if_neg (by omega), Sp.first_hit h (fun s hs => by have := h0 s hs; simp; omega) (by simpa using h1)]
  have HG : Hid ((1 ≤ many → ∀ s ∈ Sp.norm l, Sp.size s < many) → Sp.first l many = ((0, 0), false)) := fun h => by
    unfold Sp.first
    by_cases hm : many < 1
    · rw [if_pos hm]
    · rw [if_neg hm, List.find?_eq_none.2 (fun s hs => by have := h (by omega) s hs; simp; omega)]
  generalize Sp.first l many = r at HF HG ⊢
  generalize Sp.norm l = m at hcon HF HG HM hml ⊢
  have HC := Lib.hid hcon
  clear hcon
  go_enter Try.func23, Try.ntmps23
  go_wp2_with fail
  refine (HC.out _ ((Below.refl _ _).alloc (Nat.le_refl _) _)).mono ?_
  rintro e w1 ⟨v1, rfl, hrow, hb1⟩
  obtain ⟨hp0, hp1, hz1, hbw⟩ := box2 hb1
  obtain ⟨hcc, hff⟩ := bcell hb1
  have hf0 := hff w.heap.size 0 (by simp)
  have hf1 := hff w.heap.size 1 (by simp)
  simp at hf0 hf1
  obtain ⟨p1, c1, rfl, hd1, hd2, hR1⟩ := owns_sp hrow
  clear hrow hcc hff hb1
  have hW := Lib.hid hbw
  clear hbw
  go_wp2
  go_loopw [7] (fun i wr => ∃ k : Nat, k ≤ m.length ∧ i = .int .i64 k ∧ Hid (1 ≤ many → ∀ s ∈ m.take k, Sp.size s < many) ∧ Below w1.heap.size w1 wr) (fun i _ => m.length - (intOf i).toNat)
  case atStart => exact ⟨0, Nat.zero_le _, rfl, Lib.hid (by simp), Below.refl _ _⟩
  case round =>
    obtain ⟨k, hk, rfl, H, hbl⟩ := hrel
    have hbe : ∀ n, Below w.heap.size w (wr.drewN n) := fun n => hW.out.trans (below_drewN (hbl.mono hW.out.size) n)
    have q0 : wr.cell? ⟨w.heap.size, 0, none⟩ = some (.int .i64 0) := (hbl.cell (p := ⟨w.heap.size, 0, none⟩) hz1).trans hp0
    have q1 : wr.cell? ⟨w.heap.size, 1, none⟩ = some (.int .i64 0) := (hbl.cell (p := ⟨w.heap.size, 1, none⟩) hz1).trans hp1
    have r0 : wr.frozen? ⟨w.heap.size, 0, none⟩ = false := (hbl.frozen (p := ⟨w.heap.size, 0, none⟩) hz1).trans hf0
    have r1 : wr.frozen? ⟨w.heap.size, 1, none⟩ = false := (hbl.frozen (p := ⟨w.heap.size, 1, none⟩) hz1).trans hf1
    by_cases hlt : k < m.length
    · obtain ⟨g, off, rfl, hbs, hx0, hx1⟩ := (hR1.below hbl (Nat.le_refl _)).at2 hlt
      obtain ⟨hm1, hm2, hm3⟩ := Sp.mayB_iff.1 (HM.out _ (List.getElem_mem hlt))
      have HT : Hid (∀ x, x ∈ m.take (k + 1) ↔ x ∈ m.take k ∨ x = m[k]) := fun x => Sp.mem_take hlt
      have e1 : IntKind.i64.wrap (m[k].2 - m[k].1) = m[k].2 - m[k].1 := IntWalk.i64_in _ (by omega)
      have e2 : IntKind.i64.wrap (m[k].2 - m[k].1 + 1) = m[k].2 - m[k].1 + 1 := IntWalk.i64_in _ (by omega)
      by_cases hmany : 0 < many
      · by_cases hs : many ≤ m[k].2 - m[k].1 + 1
        · have d1 : decide (0 < many) = true := by simpa using hmany
          have d2 : decide (many ≤ m[k].2 - m[k].1 + 1) = true := by simpa using hs
          have e3 : IntKind.i64.wrap (m[k].1 + many) = m[k].1 + many := IntWalk.i64_in _ (by omega)
          have e4 : IntKind.i64.wrap (m[k].1 + many - 1) = m[k].1 + many - 1 := IntWalk.i64_in _ (by omega)
          have hfin := Lib.hid (HF.out k hlt (by omega) (H.out (by omega)) (by unfold Sp.size; omega))
          have hbs2 : ∀ (n : Nat) x y, Below w.heap.size w (((wr.drewN n).drew.setCell ⟨w.heap.size, 0, none⟩ x).setCell ⟨w.heap.size, 1, none⟩ y) := fun n x y => (((hbe n).drew).setCell (p := ⟨w.heap.size, 0, none⟩) (Nat.le_refl _) x).setCell (p := ⟨w.heap.size, 1, none⟩) (Nat.le_refl _) y
          go_wp2
          go_quiet (fail)
          go_wp2
          go_region
          go_wp2
          obtain ⟨s0, s1⟩ := set2 (W := wr.drewN (nq + 1)) q0 q1 (.int .i64 m[k].1) (.int .i64 (m[k].1 + many - 1))
          refine bodyPost_ret (v := .tuple #[.agg #[.int .i64 m[k].1, .int .i64 (m[k].1 + many - 1)], .bool true]) (by simp [results, Try.results23, go_sem, s0, s1]) rfl ⟨by rw [hfin.out], hbs2 _ _ _⟩
        · have d1 : decide (0 < many) = true := by simpa using hmany
          have d2 : decide (many ≤ m[k].2 - m[k].1 + 1) = false := by simpa using hs
          go_wp2
          go_quiet (fail)
          go_wp2
          exact ⟨⟨k + 1, by omega, by go_num, Lib.hid (fun h1 s hs => by rcases (HT.out s).1 hs with hs | rfl; exact H.out h1 s hs; unfold Sp.size; omega), below_drewN hbl _⟩, by simp [intOf]; omega⟩
      · have d1 : decide (0 < many) = false := by simpa using hmany
        go_wp2
        go_quiet (fail)
        go_wp2
        exact ⟨⟨k + 1, by omega, by go_num, Lib.hid (fun h1 => by omega), below_drewN hbl _⟩, by simp [intOf]; omega⟩
    · go_wp2
      have hall := H.out
      rw [List.take_of_length_le (by omega)] at hall
      obtain ⟨s0, s1⟩ := set2 q0 q1 (.int .i64 0) (.int .i64 0)
      refine bodyPost_ret (v := .tuple #[.agg #[.int .i64 0, .int .i64 0], .bool false]) (by simp [results, Try.results23, go_sem, s0, s1]) rfl ⟨by rw [HG.out hall], ((hbe 0).setCell (p := ⟨w.heap.size, 0, none⟩) (Nat.le_refl _) _).setCell (p := ⟨w.heap.size, 1, none⟩) (Nat.le_refl _) _⟩

end Go.Proofs.Ytbeombmblifohaa
