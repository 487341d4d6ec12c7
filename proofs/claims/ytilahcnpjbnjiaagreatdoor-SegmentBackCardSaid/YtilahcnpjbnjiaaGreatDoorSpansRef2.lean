/- The walks of footplateref11's answers over Norm. -/
import Derived.Test.YtilahcnpjbnjiaaGreatDoorSpansRef
namespace Go.Proofs.YtilahcnpjbnjiaaGreatDoor
set_option linter.unusedVariables false
set_option linter.unusedSimpArgs false
open Go.RowKit

theorem run_neq_sp (s t : Sp.S) (w : World) : (binOp .neq 35 (.agg #[.int .i64 s.1, .int .i64 s.2]) (.agg #[.int .i64 t.1, .int .i64 t.2])).run Tryz.prog w = .ok (.bool (!decide (s = t))) w := by
  have u3 := Tryz.underlying3
  have a3 := Tryz.isAgg3
  have z3 := Tryz.sizeOf3
  have hS : Tryz.prog.underlying 35 = some (.struct (Tryz.prog.fieldsOf 35)) := by kernel_rfl
  have hp : Tryz.prog.stoodInHeld 35 = false := by kernel_rfl
  obtain ⟨a, b⟩ := s
  obtain ⟨c, d⟩ := t
  rw [run_neq_struct, show (10000 : Nat) = 9999 + 1 from rfl, run_equalIn_agg w 9999 35 _ _ hS hp]
  simp only [Program.fieldsOf, Tryz.underlying35]
  go_simp
  by_cases h1 : a = c <;> by_cases h2 : b = d <;> simp [h1, h2]

/-- a parameter of two ints in its box, read after a call -/
theorem box2 {w w1 : World} {x y : Value} {t : TypeId} (hb : Below (w.alloc (.cells #[x, y] t)).heap.size (w.alloc (.cells #[x, y] t)) w1) :
    w1.cell? ⟨w.heap.size, 0, none⟩ = some x ∧ w1.cell? ⟨w.heap.size, 1, none⟩ = some y ∧ w.heap.size < w1.heap.size ∧ Below w.heap.size w w1 := by
  have h0 := cell_of_row (w.alloc (.cells #[x, y] t)) w.heap.size 0 #[x, y] t (0, 0) (heap_alloc_new w _)
  have h1 := cell_of_row (w.alloc (.cells #[x, y] t)) w.heap.size 1 #[x, y] t (0, 0) (heap_alloc_new w _)
  have hs := hb.size
  simp at hs
  exact ⟨(hb.cell (p := ⟨w.heap.size, 0, none⟩) (by simp)).trans h0, (hb.cell (p := ⟨w.heap.size, 1, none⟩) (by simp)).trans h1, by omega, ((Below.refl _ _).alloc (Nat.le_refl _) _).trans (hb.mono (by simp))⟩

set_option maxHeartbeats 2000000 in
theorem ref_Has (l : List Sp.S) (s : Sp.S) (v : Value) (w : World) (hl : l.length ≤ 1073741824) (hv : SlR w 2 encSp v l) :
    Calls Tryz.prog 58 #[v, .agg #[.int .i64 s.1, .int .i64 s.2]] w fun e w' => e = .returned (.bool (Sp.has l s)) ∧ Below w.heap.size w w' := by
  obtain ⟨p, cap, rfl, hc1, hc2, hR⟩ := hv
  obtain ⟨a, b⟩ := s
  have hml := Sp.norm_length l
  have hcon : ∀ W, Below w.heap.size w W → Calls Tryz.prog 78 #[.slice p l.length cap] W (RetRow W.heap.size 35 2 (Sp.norm l).length (flat encSp (Sp.norm l)) W) := fun W hW => ref_Norm l (.slice p l.length cap) W hl ⟨p, cap, rfl, hc1, hc2, hR.below hW (Nat.le_refl _)⟩
  have HF : Hid (∀ r, (r = true ↔ Sp.mayB (a, b) = true ∧ ∃ s ∈ Sp.norm l, s.1 ≤ a ∧ b ≤ s.2) → Sp.has l (a, b) = r) := fun r h => by
    have : Sp.has l (a, b) = true ↔ r = true := by rw [h]; simp [Sp.has]
    cases r <;> simp_all
  generalize Sp.has l (a, b) = r at HF ⊢
  generalize Sp.norm l = m at hcon HF hml ⊢
  have HC := Lib.hid hcon
  clear hcon
  cases hm : Sp.mayB (a, b)
  · go_enter Tryz.func58, Tryz.ntmps58
    go_wp2_with fail
    refine (HC.out _ ((Below.refl _ _).alloc (Nat.le_refl _) _)).mono ?_
    rintro e w1 ⟨v1, rfl, hrow, hb1⟩
    obtain ⟨hp0, hp1, hz1, hbw⟩ := box2 hb1
    go_wp2_with fail
    refine (ref_may_no _ _ hm).mono ?_
    rintro e w2 ⟨rfl, hb2⟩
    have hq0 := (hb2.cell (p := ⟨w.heap.size, 0, none⟩) hz1).trans hp0
    have hq1 := (hb2.cell (p := ⟨w.heap.size, 1, none⟩) hz1).trans hp1
    have hz := Nat.lt_of_lt_of_le hz1 hb2.size
    have hb3 := hbw.trans (hb2.mono hbw.size)
    have hsl := owns_sp (owns_below hrow hb2 (Nat.le_refl _))
    clear hrow hb1 hb2 hp0 hp1 hbw
    go_wp2
    obtain ⟨p1, c1, rfl, hd1, hd2, hR1⟩ := hsl
    go_loopw [7] (fun i wr => ∃ k : Nat, k ≤ m.length ∧ i = .int .i64 k ∧ Below w.heap.size w wr) (fun i _ => m.length - (intOf i).toNat)
    case atStart => exact ⟨0, Nat.zero_le _, rfl, hb3⟩
    case round =>
      obtain ⟨k, hk, rfl, hbl⟩ := hrel
      by_cases hlt : k < m.length
      · go_wp2
        go_quiet (fail)
        go_wp2
        exact ⟨⟨k + 1, by omega, by go_num, below_drewN hbl _⟩, by simp [intOf]; omega⟩
      · go_wp2
        go_ret
        exact ⟨ret_bool (HF.out false (by simp [hm])).symm, hbl⟩
  · go_enter Tryz.func58, Tryz.ntmps58
    go_wp2_with fail
    refine (HC.out _ ((Below.refl _ _).alloc (Nat.le_refl _) _)).mono ?_
    rintro e w1 ⟨v1, rfl, hrow, hb1⟩
    obtain ⟨hp0, hp1, hz1, hbw⟩ := box2 hb1
    go_wp2_with fail
    refine (ref_may_yes _ _ hm).mono ?_
    rintro e w2 ⟨rfl, hb2⟩
    have hq0 := (hb2.cell (p := ⟨w.heap.size, 0, none⟩) hz1).trans hp0
    have hq1 := (hb2.cell (p := ⟨w.heap.size, 1, none⟩) hz1).trans hp1
    have hz := Nat.lt_of_lt_of_le hz1 hb2.size
    have hb3 := hbw.trans (hb2.mono hbw.size)
    have hsl := owns_sp (owns_below hrow hb2 (Nat.le_refl _))
    clear hrow hb1 hb2 hp0 hp1 hbw
    go_wp2
    obtain ⟨p1, c1, rfl, hd1, hd2, hR1⟩ := hsl
    have hW := Lib.hid hb3
    go_loopw [7] (fun i wr => ∃ k : Nat, k ≤ m.length ∧ i = .int .i64 k ∧ Hid (∀ s ∈ m.take k, ¬ (s.1 ≤ a ∧ b ≤ s.2)) ∧ Below w2.heap.size w2 wr) (fun i _ => m.length - (intOf i).toNat)
    case atStart => exact ⟨0, Nat.zero_le _, rfl, Lib.hid (by simp), Below.refl _ _⟩
    case round =>
      obtain ⟨k, hk, rfl, H, hbl⟩ := hrel
      have hbe : ∀ n, Below w.heap.size w (wr.drewN n) := fun n => hW.out.trans (below_drewN (hbl.mono hW.out.size) n)
      by_cases hlt : k < m.length
      · obtain ⟨g, off, rfl, hbs, hx0, hx1⟩ := (hR1.below hbl (Nat.le_refl _)).at2 hlt
        have q0 : wr.cell? ⟨w.heap.size, 0, none⟩ = some (.int .i64 a) := (hbl.cell (p := ⟨w.heap.size, 0, none⟩) hz).trans hq0
        have q1 : wr.cell? ⟨w.heap.size, 1, none⟩ = some (.int .i64 b) := (hbl.cell (p := ⟨w.heap.size, 1, none⟩) hz).trans hq1
        have HT : Hid (∀ x, x ∈ m.take (k + 1) ↔ x ∈ m.take k ∨ x = m[k]) := fun x => Sp.mem_take hlt
        by_cases h1 : m[k].1 ≤ a
        · by_cases h2 : b ≤ m[k].2
          · have d1 : decide (m[k].1 ≤ a) = true := by simpa using h1
            have d2 : decide (b ≤ m[k].2) = true := by simpa using h2
            go_wp2
            go_quiet (fail)
            go_wp2
            go_ret
            exact ⟨ret_bool (HF.out true (by simp only [hm, true_iff, true_and]; exact ⟨_, List.getElem_mem hlt, h1, h2⟩)).symm, hbe _⟩
          · have d1 : decide (m[k].1 ≤ a) = true := by simpa using h1
            have d2 : decide (b ≤ m[k].2) = false := by simpa using h2
            go_wp2
            go_quiet (fail)
            go_wp2
            exact ⟨⟨k + 1, by omega, by go_num, Lib.hid (fun s hs => by rcases (HT.out s).1 hs with hs | rfl; exact H.out s hs; omega), below_drewN hbl _⟩, by simp [intOf]; omega⟩
        · have d1 : decide (m[k].1 ≤ a) = false := by simpa using h1
          go_wp2
          go_quiet (fail)
          go_wp2
          exact ⟨⟨k + 1, by omega, by go_num, Lib.hid (fun s hs => by rcases (HT.out s).1 hs with hs | rfl; exact H.out s hs; omega), below_drewN hbl _⟩, by simp [intOf]; omega⟩
      · go_wp2
        go_ret
        have := H.out
        rw [List.take_of_length_le (by omega)] at this
        exact ⟨ret_bool (HF.out false (by simp only [Bool.false_eq_true, false_iff]; rintro ⟨_, s, hs, h⟩; exact this s hs h)).symm, hbe 0⟩

def RetSpOk (r : Sp.S × Bool) (w : World) (e : Ending) (w' : World) : Prop := e = .returned (.tuple #[.agg #[.int .i64 r.1.1, .int .i64 r.1.2], .bool r.2]) ∧ Below w.heap.size w w'

theorem Sp.first_hit {m : List Sp.S} {k : Nat} (h : k < m.length) {q : Sp.S → Bool} (h0 : ∀ s ∈ m.take k, q s = false) (h1 : q m[k] = true) : m.find? q = some m[k] := by
  have hs : m.take k ++ m[k] :: m.drop (k + 1) = m := by rw [List.getElem_cons_drop, List.take_append_drop]
  have h2 : (m.take k).find? q = none := by simpa using h0
  have h3 : (m.take k ++ m[k] :: m.drop (k + 1)).find? q = some m[k] := by
    rw [List.find?_append, h2, List.find?_cons]
    simp [h1]
  rwa [hs] at h3

end Go.Proofs.YtilahcnpjbnjiaaGreatDoor
