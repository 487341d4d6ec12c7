/- spans.Add and spans.Cut. -/
import Derived.Test.YtbeombmblifohaaSpansFns2
import Derived.Test.YtbeombmblifohaaSpansRef3
import Derived.Deep.DeepCutAuto
namespace Go.Proofs.Ytbeombmblifohaa
set_option linter.unusedVariables false
set_option linter.unusedSimpArgs false
open Go.RowKit Go.Shelf Go.Proofs

theorem add_block (a : Addr) (n : Nat) : (a.add n).block = a.block := by unfold Addr.add; split <;> rfl

set_option maxRecDepth 100000 in
set_option maxHeartbeats 4000000 in
theorem spans_Add (l : List Sp.S) (hl : l.length ≤ 536870912) (s : Sp.S) (v : Value) (w : World) (hv : SlR w 2 encSp v l) :
    Calls Try.prog 52 #[v, .agg #[.int .i64 s.1, .int .i64 s.2]] w (RetRow w.heap.size 27 2 (Sp.add l s).length (flat encSp (Sp.add l s)) w) := by
  obtain ⟨a, b⟩ := s
  have hB0 : Below w.heap.size w (w.alloc (.cells #[.int .i64 a, .int .i64 b] 27)) := (Below.refl _ _).alloc (Nat.le_refl _) _
  obtain ⟨W0, hW0⟩ : ∃ W0, W0 = w.alloc (.cells #[.int .i64 a, .int .i64 b] 27) := ⟨_, rfl⟩
  have hz0 : W0.heap.size = w.heap.size + 1 := by rw [hW0]; simp
  have hcl : ∀ W, Below (w.heap.size + 1) W0 W → Calls Try.prog 40 #[v] W fun e w' => ∃ v1, e = .returned v1 ∧ w'.ownsRow (w.heap.size + 1) 27 2 v1 l.length (flat encSp l) ∧ Below W.heap.size W w' := fun W hW => by
    refine (cloneSp_any l (by omega) v W ((hv.below (hW0 ▸ hB0) (Nat.le_refl _)).below hW (by omega))).mono ?_
    rintro e w' ⟨v1, rfl, ho, hb⟩
    exact ⟨v1, rfl, owns_base ho (by have := hW.size; omega), hb⟩
  have hcon : ∀ v W, SlR W 2 encSp v (l ++ [(a, b)]) → Calls Try.prog 70 #[v] W (RetRow W.heap.size 27 2 (Sp.add l (a, b)).length (flat encSp (Sp.add l (a, b))) W) := fun v W h => joined_any _ (by simp; omega) v W h
  generalize Sp.add l (a, b) = m at hcon ⊢
  have HC := Lib.hid hcon
  have HL := Lib.hid hcl
  clear hcon hcl
  subst hW0
  have hBr : Below (w.heap.size + 1) (w.alloc (.cells #[.int .i64 a, .int .i64 b] 27)) (w.alloc (.cells #[.int .i64 a, .int .i64 b] 27)) := Below.refl _ _
  go_enter Try.func52, Try.ntmps52
  go_wp2_with fail
  go_region_held3 (fun w' => w'.cell? ⟨w.heap.size, 0, none⟩ = some (.int .i64 a) ∧ w'.cell? ⟨w.heap.size, 1, none⟩ = some (.int .i64 b))
    (first
      | go_keep
      | (go_split_ands
         refine ⟨?_, ?_⟩
         all_goals (rw [hbl1.cell (by first | (simp; done) | (simp; omega))]; assumption))
      | (go_split_ands
         refine ⟨?_, ?_⟩
         all_goals (rw [hbl2.cell (by simp)]; assumption))
      | (go_split_ands
         refine ⟨?_, ?_⟩
         all_goals (rw [hbl3.cell hz2]; assumption)))
    (first
      | (go_at_call 40; refine (HL.out _ (by first | exact hBr.drew | exact (hBr.drew).alloc (by simp) _)).mono ?_; rintro e w1 ⟨v1, rfl, hown1, hbl1⟩)
      | (refine step_app elemSp rfl _ _ rfl (w.heap.size + 1) v1 _ _ rfl (hown1.alloc _) ⟨w1.heap.size, 0, none⟩ 1 1 _ rfl rfl (cell_new_list w1 _ _) (by simp [Value.oneCell']) (by omega) (by have := hbl1.size; simp at this ⊢; omega) ?_; intro v2 w2 hown2 _ hbl2; have hz2 : w.heap.size < w2.heap.size := by (have h1 := hbl1.size; have h2 := hbl2.size; simp at h1 h2; omega))
      | (refine step_app elemSp rfl _ _ rfl (w.heap.size + 1) v1 _ _ rfl hown1 ⟨w.heap.size + 1, 0, none⟩ 1 1 [.int .i64 a, .int .i64 b] rfl rfl (fun j u hu => (hbl1.cell (p := (⟨w.heap.size + 1, 0, none⟩ : Addr).add j) (by rw [add_block]; simp)).trans (by have h := cell_new_list (w.alloc (.cells #[.int .i64 a, .int .i64 b] 27)) [.int .i64 a, .int .i64 b] 27 j u hu; simpa using h)) (by simp [Value.oneCell']) (by omega) (by have := hbl1.size; simp at this ⊢; omega) ?_; intro v2 w2 hown2 _ hbl2; have hz2 : w.heap.size < w2.heap.size := by (have h1 := hbl1.size; have h2 := hbl2.size; simp at h1 h2; omega))
      | (go_at_call 70; refine (HC.out v2 w2 (SlR.of_owns encSp_len (by simpa [flat_append, flat, encSp] using hown2))).mono ?_; rintro e w3 ⟨v3, rfl, hown3, hbl3⟩))
  · have hbA : Below w.heap.size w w1 := (hB0.drew).trans (hbl1.mono (by simp))
    have hbB := (hbA.alloc hbA.size (.cells #[.int .i64 a, .int .i64 b] 27)).trans (hbl2.mono (by omega))
    go_wp2
    go_ret
    exact ⟨v3, rfl, owns_base hown3 hbB.size, hbB.trans (hbl3.mono hbB.size)⟩
  · have hbA : Below w.heap.size w w1 := ((hB0.alloc (by simp) (.cells #[.int .i64 a, .int .i64 b] 27)).drew).trans (hbl1.mono (by simp; omega))
    have hbB := hbA.trans (hbl2.mono (by omega))
    go_wp2
    go_ret
    exact ⟨v3, rfl, owns_base hown3 hbB.size, hbB.trans (hbl3.mono hbB.size)⟩
end Go.Proofs.Ytbeombmblifohaa
