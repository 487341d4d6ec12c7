/- The document's same hops. -/
import Derived.Test.YtilahcnpjbnjiaaDoorHopSame
import Derived.Deep.QuietTactic
import Derived.BigQuiet
namespace Go.Proofs.YtilahcnpjbnjiaaDoor
set_option linter.unusedVariables false
set_option linter.unusedSimpArgs false
open Go.RowKit Go.Shelf Go.Proofs Go.OctetPlain

theorem rd_int {w : World} {p : Option Addr} {L : List Int} (h : RdP w 1 encI p L) {k : Nat} (hk : k < L.length) : ∃ b off, p = some ⟨b, off, none⟩ ∧ ∀ n, (w.drewN n).cell? ⟨b, off + k, none⟩ = some (.int .i64 L[k]) := by
  obtain ⟨b, off, rfl, _, hc⟩ := h.at hk
  refine ⟨b, off, rfl, fun n => ?_⟩
  have := hc 0 (.int .i64 L[k]) rfl
  simpa using this
set_option maxRecDepth 100000 in
set_option maxHeartbeats 1000000 in
theorem ref_ints (a b : List Int) (ha : a.length ≤ 1073741824) (hb : b.length ≤ 1073741824) (va vb : Value) (w : World) (hva : SlR w 1 encI va a) (hvb : SlR w 1 encI vb b) :
    Calls Tryd.prog 40 #[va, vb] w fun e w' => e = .returned (.bool (decide (a = b))) ∧ Below w.heap.size w w' := by
  obtain ⟨p1, c1, rfl, g1, g2, R1⟩ := hva
  obtain ⟨p2, c2, rfl, g3, g4, R2⟩ := hvb
  by_cases hl : a.length = b.length
  · go_enter Tryd.func40, Tryd.ntmps40
    rw [← hl]
    have HL := Lib.hid hl
    clear hl g1 g3
    go_wp2_with fail
    go_loopw [5] (fun vi wr => ∃ k : Nat, vi = .int .i64 k ∧ k ≤ a.length ∧ Hid (a.take k = b.take k) ∧ Hid (Below w.heap.size w wr)) (fun vi _ => a.length - (intOf vi).toNat)
    case atStart => exact ⟨0, rfl, Nat.zero_le _, Lib.hid rfl, Lib.hid (Below.refl _ _)⟩
    case round =>
      obtain ⟨k, rfl, hk, HT, HB⟩ := hrel
      by_cases hlt : k < a.length
      · have hltb : k < b.length := by rw [← HL.out]; exact hlt
        obtain ⟨b1, o1, rfl, hc1⟩ := rd_int (R1.below HB.out (Nat.le_refl _)) hlt
        obtain ⟨b2, o2, rfl, hc2⟩ := rd_int (R2.below HB.out (Nat.le_refl _)) hltb
        have hka : a[k]? = some a[k] := List.getElem?_eq_getElem hlt
        have hkb : b[k]? = some b[k] := List.getElem?_eq_getElem hltb
        have HKA := Lib.hid hka
        have HKB := Lib.hid hkb
        have HTA := Lib.hid (List.take_succ_eq_append_getElem hlt)
        have HTB := Lib.hid (List.take_succ_eq_append_getElem hltb)
        generalize a[k] = x at *
        generalize b[k] = y at *
        clear hka hkb
        by_cases hxy : x = y
        · subst hxy
          go_wp2_with fail
          go_quiet (fail)
          go_wp2_with fail
          exact ⟨⟨k + 1, by go_num, by omega, Lib.hid (by rw [HTA.out, HTB.out, HT.out]), Lib.hid (below_drewN HB.out nq)⟩, by simp [intOf]; omega⟩
        · have hne : (x != y) = true := by simpa using hxy
          have HN : Hid (decide (a = b) = false) := Lib.hid (decide_eq_false fun e => hxy (by
            have h1 := HKA.out
            rw [e, HKB.out] at h1
            exact (Option.some.inj h1).symm))
          clear hxy
          go_wp2_with fail
          go_quiet (fail)
          go_wp2_with fail
          go_ret
          exact ⟨by rw [HN.out]; first | done | rfl, below_drewN HB.out nq⟩
      · obtain rfl : k = a.length := by omega
        have HE : Hid (decide (a = b) = true) := Lib.hid (decide_eq_true (by
          have h := HT.out
          rw [List.take_length] at h
          rw [h, HL.out, List.take_length]))
        go_wp2_with fail
        go_ret
        exact ⟨by rw [HE.out]; first | done | rfl, HB.out⟩
  · have hne : ¬ (a.length : Int) = (b.length : Int) := by omega
    rw [decide_eq_false (fun e => hl (by rw [e]))]
    clear hl
    go_enter Tryd.func40, Tryd.ntmps40
    go_wp2_with fail
    go_ret
    exact ⟨rfl, Below.refl _ _⟩
theorem hop_eq2 (a b : Hp.Hop) : decide (a = b) = (decide (a.labels = b.labels) && decide (a.repair = b.repair) && decide (a.op = b.op) && decide (a.port = b.port) && decide (a.backup = b.backup) && decide (a.pipe = b.pipe)) := by
  rw [hop_eq]
  cases decide (a.labels = b.labels) <;> cases decide (a.repair = b.repair) <;> cases decide (a.op = b.op) <;> cases decide (a.port = b.port) <;> cases decide (a.backup = b.backup) <;> cases decide (a.pipe = b.pipe) <;> rfl
set_option maxRecDepth 100000 in
set_option maxHeartbeats 4000000 in
theorem ref_SameHop (a b : Hp.Hop) (l1 r1 l2 r2 : Value) (w : World) (A : HopIs w a l1 r1) (B : HopIs w b l2 r2) :
    Calls Tryd.prog 21 #[.agg (hopA a l1 r1), .agg (hopA b l2 r2)] w fun e w' => e = .returned (.bool (decide (a = b))) ∧ Below w.heap.size w w' := by
  rw [hop_eq2]
  have H1 : Hid (∀ W, Below w.heap.size w W → Calls Tryd.prog 40 #[l1, l2] W fun e w' => e = .returned (.bool (decide (a.labels = b.labels))) ∧ Below W.heap.size W w') := Lib.hid fun W hW => ref_ints _ _ A.n1 B.n1 l1 l2 W (A.sl.below hW (Nat.le_refl _)) (B.sl.below hW (Nat.le_refl _))
  have H2 : Hid (∀ W, Below w.heap.size w W → Calls Tryd.prog 40 #[r1, r2] W fun e w' => e = .returned (.bool (decide (a.repair = b.repair))) ∧ Below W.heap.size W w') := Lib.hid fun W hW => ref_ints _ _ A.n2 B.n2 r1 r2 W (A.sr.below hW (Nat.le_refl _)) (B.sr.below hW (Nat.le_refl _))
  obtain ⟨-, -, ⟨p1, c1, rfl, -, -, -⟩, ⟨p2, c2, rfl, -, -, -⟩⟩ := A
  obtain ⟨-, -, ⟨p3, c3, rfl, -, -, -⟩, ⟨p4, c4, rfl, -, -, -⟩⟩ := B
  obtain ⟨o1, L1, q1, k1, R1, s1⟩ := a
  obtain ⟨o2, L2, q2, k2, R2, s2⟩ := b
  unfold hopA
  simp only at *
  have hb0 : ∀ o o', Below w.heap.size w ((w.alloc o).alloc o') := fun o o' => (belowA w o).alloc (by simp) _
  have HB0 := Lib.hid hb0
  clear hb0
  generalize decide (L1 = L2) = e1 at *
  generalize decide (R1 = R2) = e2 at *
  go_enter Tryd.func21, Tryd.ntmps21
  go_wp2_with fail
  refine (H1.out _ (HB0.out _ _)).mono ?_
  rintro e w1 ⟨rfl, hb1⟩
  obtain ⟨hcc, hcf⟩ := bcell hb1
  have hz1 : w.heap.size + 1 < w1.heap.size := by have := hb1.size; simp at this; omega
  have hz1' : w.heap.size < w1.heap.size := by omega
  have B1 := Lib.hid ((HB0.out (.cells #[.int .i64 o1, .slice p1 L1.length c1, .int .i64 q1, .int .i64 k1, .slice p2 R1.length c2, .bool s1] 24) (.cells #[.int .i64 o2, .slice p3 L2.length c3, .int .i64 q2, .int .i64 k2, .slice p4 R2.length c4, .bool s2] 24)).trans (hb1.mono (by simp; omega)))
  go_wp2_with fail
  refine (H2.out _ B1.out).mono ?_
  rintro e w2 ⟨rfl, hb2⟩
  obtain ⟨hcc2, hcf2⟩ := bcell hb2
  have hz2 : w.heap.size + 1 < w2.heap.size := by have := hb2.size; omega
  have B2 := Lib.hid (B1.out.trans (hb2.mono B1.out.size))
  clear hb1 hb2
  cases e1
  · go_wp2_with fail
    go_ret
    exact ⟨by simp, B2.out⟩
  cases e2
  · go_wp2_with fail
    go_ret
    exact ⟨by simp, B2.out⟩
  by_cases x1 : o1 = o2
  rotate_left
  · have d : (o1 == o2) = false := by simpa using x1
    have HX := Lib.hid (decide_eq_false x1)
    clear x1
    go_wp2_with fail
    go_ret
    exact ⟨by rw [HX.out]; simp, B2.out⟩
  subst x1
  by_cases x2 : q1 = q2
  rotate_left
  · have d : (q1 == q2) = false := by simpa using x2
    have HX := Lib.hid (decide_eq_false x2)
    clear x2
    go_wp2_with fail
    go_ret
    exact ⟨by rw [HX.out]; simp, B2.out⟩
  subst x2
  by_cases x3 : k1 = k2
  rotate_left
  · have d : (k1 == k2) = false := by simpa using x3
    have HX := Lib.hid (decide_eq_false x3)
    clear x3
    go_wp2_with fail
    go_ret
    exact ⟨by rw [HX.out]; simp, B2.out⟩
  subst x3
  by_cases x4 : s1 = s2
  rotate_left
  · have d : (s1 == s2) = false := by simpa using x4
    have HX := Lib.hid (decide_eq_false x4)
    clear x4
    go_wp2_with fail
    go_ret
    exact ⟨by rw [HX.out]; simp, B2.out⟩
  subst x4
  go_wp2_with fail
  go_ret
  exact ⟨by simp, B2.out⟩
end Go.Proofs.YtilahcnpjbnjiaaDoor
