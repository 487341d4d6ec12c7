/- The spans package over joined, the rest. -/
import Derived.Test.YtbeombmblifohaaSpansFns
namespace Go.Proofs.Ytbeombmblifohaa
set_option linter.unusedVariables false
set_option linter.unusedSimpArgs false
open Go.RowKit Go.Shelf Go.Proofs

/-- the closure of Has -/
theorem has_closure (a b : Int) (Bx : Nat) (x : Sp.S) (W : World) (h0 : W.cell? ⟨Bx, 0, none⟩ = some (.int .i64 a)) (h1 : W.cell? ⟨Bx, 1, none⟩ = some (.int .i64 b)) :
    Calls Try.prog 68 #[.agg #[.int .i64 x.1, .int .i64 x.2], .pointer (some ⟨Bx, 0, none⟩)] W fun e w' => e = .returned (.bool (decide (x.1 ≤ a) && decide (b ≤ x.2))) ∧ Below W.heap.size W w' := by
  obtain ⟨x1, x2⟩ := x
  simp only
  have hbx : Bx < W.heap.size := World.block_lt_of_cell? W _ h0
  have hb : ∀ o n, Below W.heap.size W ((W.alloc o).drewN n) := fun o n => below_drewN ((Below.refl _ _).alloc (Nat.le_refl _) _) n
  by_cases c1 : x1 ≤ a <;> by_cases c2 : b ≤ x2
  all_goals
    have d1 : decide (x1 ≤ a) = decide (x1 ≤ a) := rfl
    simp only [c1, c2, decide_true, decide_false, Bool.and_true, Bool.and_false, Bool.false_and, Bool.true_and]
    first | (have e1 : decide (x1 ≤ a) = true := by simpa using c1) | (have e1 : decide (x1 ≤ a) = false := by simpa using c1)
    first | (have e2 : decide (b ≤ x2) = true := by simpa using c2) | (have e2 : decide (b ≤ x2) = false := by simpa using c2)
    clear d1
    go_enter Try.func68, Try.ntmps68
    go_wp2
    go_ret
    exact ⟨rfl, hb _ 0⟩

theorem index_none (p : Option Addr) (cap : Nat) (fv : Value) (w : World) :
    Calls Try.prog 74 #[.slice p 0 cap, fv] w fun e w' => e = .returned (.int .i64 (-1)) ∧ Below w.heap.size w w' := by
  go_enter Try.func74, Try.ntmps74
  go_wp2
  refine wp_loop_rounds 1 ?_
  rw [rounds_succ]
  go_wp2
  go_ret
  exact ⟨rfl, Below.refl _ _⟩
theorem contains_none (p : Option Addr) (cap : Nat) (fv : Value) (w : World) :
    Calls Try.prog 67 #[.slice p 0 cap, fv] w fun e w' => e = .returned (.bool false) ∧ Below w.heap.size w w' := by
  go_enter Try.func67, Try.ntmps67
  go_wp2_with (go_at_call 74; refine (index_none p cap fv _).mono ?_; rintro e w' ⟨rfl, hb⟩)
  go_ret
  exact ⟨rfl, hb⟩
theorem contains_any (g : Nat) (lb : Array Value) (q : Sp.S → Bool) (l : List Sp.S) (hl : l.length ≤ 1073741824) (v : Value) (w : World) (hv : SlR w 2 encSp v l) (eg : ∀ args w, (callFunc g args).run Try.prog w = .ok (.enter g args) w)
    (hq : ∀ (W : World) (x : Sp.S), Below w.heap.size w W → Calls Try.prog g (#[.agg #[.int .i64 x.1, .int .i64 x.2]] ++ lb) W fun e w' => e = .returned (.bool (q x)) ∧ Below W.heap.size W w') :
    Calls Try.prog 67 #[v, .func (.func g) #[] lb] w fun e w' => e = .returned (.bool (l.any q)) ∧ Below w.heap.size w w' := by
  obtain ⟨p, cap, rfl, hc1, hc2, hR⟩ := hv
  cases p with
  | none =>
    have h0 := hR.1 rfl
    have hl0 : l = [] := List.eq_nil_of_length_eq_zero h0
    subst hl0
    exact contains_none none cap _ w
  | some a =>
    obtain ⟨hsp, hbk, hcell⟩ := hR.2 a rfl
    have ha : a = ⟨a.block, a.off, none⟩ := by cases a; simp_all
    have hcon := AnyQ.slices_ContainsFunc Try.containsSp 2 Try.isAgg27 Try.sizeOf27 encSp (fun _ => rfl) q g lb eg a.block a.off l.length cap l w
      (fun W x hW => (hq W x hW).mono fun e w' ⟨he, hb⟩ => ⟨he, hW.trans (hb.mono hW.size)⟩) (Nat.le_refl _) (by omega) hbk
      (fun j hj i v hv => hcell j l[j]! (by simp [hj]) i v hv)
    change Calls Try.prog 67 _ _ _ at hcon
    rw [ha]
    rw [List.take_length] at hcon
    exact hcon

set_option maxHeartbeats 1000000 in
theorem spans_Has (l : List Sp.S) (hl : l.length ≤ 1073741824) (s : Sp.S) (v : Value) (w : World) (hv : SlR w 2 encSp v l) :
    Calls Try.prog 48 #[v, .agg #[.int .i64 s.1, .int .i64 s.2]] w fun e w' => e = .returned (.bool (Sp.has l s)) ∧ Below w.heap.size w w' := by
  obtain ⟨a, b⟩ := s
  have hB0 : Below w.heap.size w (w.alloc (.cells #[.int .i64 a, .int .i64 b] 27)) := (Below.refl _ _).alloc (Nat.le_refl _) _
  cases hm : Sp.mayB (a, b)
  · rw [show Sp.has l (a, b) = false by simp [Sp.has, hm]]
    go_enter Try.func48, Try.ntmps48
    go_wp2_with (go_at_call 66; refine (spans_may_no _ _ hm).mono ?_; rintro e w1 ⟨rfl, hb1⟩; obtain ⟨hp0, hp1, hz1, hbw⟩ := box2 hb1)
    go_ret
    exact ⟨rfl, hbw⟩
  · rw [show Sp.has l (a, b) = (Sp.norm l).any (fun x => decide (x.1 ≤ a) && decide (b ≤ x.2)) by simp [Sp.has, hm]]
    have hml := Sp.norm_length l
    have hcon : ∀ W, Below w.heap.size w W → Calls Try.prog 58 #[v] W (RetRow W.heap.size 27 2 (Sp.norm l).length (flat encSp (Sp.norm l)) W) := fun W hW => spans_Norm l hl v W (hv.below hW (Nat.le_refl _))
    have hcl : ∀ (W : World) (v1 : Value) (m : List Sp.S), m.length ≤ 1073741824 → SlR W 2 encSp v1 m → W.cell? ⟨w.heap.size, 0, none⟩ = some (.int .i64 a) → W.cell? ⟨w.heap.size, 1, none⟩ = some (.int .i64 b) → w.heap.size < W.heap.size →
        Calls Try.prog 67 #[v1, .func (.func 68) #[] #[.pointer (some ⟨w.heap.size, 0, none⟩)]] W fun e w' => e = .returned (.bool (m.any (fun x => decide (x.1 ≤ a) && decide (b ≤ x.2)))) ∧ Below W.heap.size W w' := by
      intro W v1 m hm1 hv1 h0 h1 hz
      refine contains_any 68 _ _ m hm1 v1 W hv1 (enters_of Try.func68 (by kernel_rfl) rfl) ?_
      intro W2 x hW2
      exact has_closure a b w.heap.size x W2 ((hW2.cell (p := ⟨w.heap.size, 0, none⟩) hz).trans h0) ((hW2.cell (p := ⟨w.heap.size, 1, none⟩) hz).trans h1)
    have HC := Lib.hid hcl
    have HN := Lib.hid hcon
    clear hcl hcon
    generalize Sp.norm l = m at HN hml ⊢
    generalize hr : m.any (fun x => decide (x.1 ≤ a) && decide (b ≤ x.2)) = r
    have HR := Lib.hid hr
    clear hr
    go_enter Try.func48, Try.ntmps48
    go_wp2_with (first
      | (go_at_call 66; refine (spans_may_yes _ _ hm).mono ?_; rintro e w1 ⟨rfl, hb1⟩; obtain ⟨hp0, hp1, hz1, hbw⟩ := box2 hb1)
      | (go_at_call 58; refine (HN.out _ hbw).mono ?_; rintro e w2 ⟨v2, rfl, hown2, hb2⟩)
      | (go_at_call 67; refine (HC.out _ v2 m (by omega) (SlR.of_owns encSp_len hown2) ((hb2.cell (p := ⟨w.heap.size, 0, none⟩) hz1).trans hp0) ((hb2.cell (p := ⟨w.heap.size, 1, none⟩) hz1).trans hp1) (Nat.lt_of_lt_of_le hz1 hb2.size)).mono ?_; rintro e w3 ⟨rfl, hb3⟩))
    go_ret
    have hb4 := hbw.trans (hb2.mono hbw.size)
    exact ⟨ret_bool HR.out, hb4.trans (hb3.mono hb4.size)⟩

end Go.Proofs.Ytbeombmblifohaa
