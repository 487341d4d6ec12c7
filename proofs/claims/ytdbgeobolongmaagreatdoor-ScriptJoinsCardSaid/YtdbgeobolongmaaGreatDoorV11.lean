/- Part of the proof: contracts of the functions that the statements of layer 32 reach. -/
import Derived.Deep.QuietTactic
import Derived.Test.YtdbgeobolongmaaGreatDoorV06
import Derived.Test.YtdbgeobolongmaaGreatDoorV10
set_option linter.unusedVariables false
set_option linter.unusedSimpArgs false
set_option maxRecDepth 100000
set_option maxHeartbeats 2000000
namespace Go.Proofs.YtdbgeobolongmaaGreatDoor
open Go.RowKit Go.Shelf Go.Proofs Go.OctetPlain
def hopA (h : Hp.Hop) (l r : Value) : Array Value := #[.int .i64 h.op, l, .int .i64 h.port, .int .i64 h.backup, r, .bool h.pipe]
def chk (op n1 n2 P B : Int) (a b : Bool) : Int :=
 if op < 0 ∨ 3 < op ∨ (op = 1 ∧ n1 = 0) ∨ (1 < op ∧ n1 ≠ 0) then 54
 else if 16 < n1 ∨ 16 < n2 then 51
 else if a = false ∨ b = false then 40
 else if P < 0 ∨ 63 < P ∨ (op = 3 ∧ P ≠ 0) ∨ 63 < B ∨ (op = 3 ∧ 0 ≤ B) then 50
 else if B < -1 ∨ (B = -1 ∧ n2 ≠ 0) ∨ B = P then 54
 else 0
theorem chk_eq (h : Hp.Hop) : Hp.checkR h = chk h.op h.labels.length h.repair.length h.port h.backup (h.labels.all Hp.pushed) (h.repair.all Hp.pushed) := by
 have e1 : (h.labels = []) = ((h.labels.length : Int) = 0) := by rw [← List.length_eq_zero_iff]; exact propext (by omega)
 have e2 : (h.labels ≠ []) = ((h.labels.length : Int) ≠ 0) := by rw [ne_eq, e1]
 have e3 : (h.repair ≠ []) = ((h.repair.length : Int) ≠ 0) := by rw [ne_eq, ← List.length_eq_zero_iff]; exact propext (by omega)
 have c2 : (16 < h.labels.length ∨ 16 < h.repair.length) = (16 < (h.labels.length : Int) ∨ 16 < (h.repair.length : Int)) := propext (by omega)
 have c3 : ((h.labels.all Hp.pushed && h.repair.all Hp.pushed) = false) = (h.labels.all Hp.pushed = false ∨ h.repair.all Hp.pushed = false) := by cases h.labels.all Hp.pushed <;> cases h.repair.all Hp.pushed <;> simp
 unfold Hp.checkR chk
 refine ite_congr (by rw [e1, e2]) (fun _ => rfl) fun _ => ite_congr c2 (fun _ => rfl) fun _ => ite_congr c3 (fun _ => rfl) fun _ => ite_congr rfl (fun _ => rfl) fun _ => ite_congr (by rw [e3]) (fun _ => rfl) fun _ => rfl
section
variable {op n1 n2 P B : Int} {a b : Bool}
theorem chk_1 (h : op < 0 ∨ 3 < op ∨ (op = 1 ∧ n1 = 0) ∨ (1 < op ∧ n1 ≠ 0)) : chk op n1 n2 P B a b = 54 := by unfold chk; rw [if_pos h]
theorem chk_2 (g1 : ¬ (op < 0 ∨ 3 < op ∨ (op = 1 ∧ n1 = 0) ∨ (1 < op ∧ n1 ≠ 0))) (h : 16 < n1 ∨ 16 < n2) : chk op n1 n2 P B a b = 51 := by unfold chk; rw [if_neg g1, if_pos h]
theorem chk_3 (g1 : ¬ (op < 0 ∨ 3 < op ∨ (op = 1 ∧ n1 = 0) ∨ (1 < op ∧ n1 ≠ 0))) (g2 : ¬ (16 < n1 ∨ 16 < n2)) (h : a = false ∨ b = false) : chk op n1 n2 P B a b = 40 := by unfold chk; rw [if_neg g1, if_neg g2, if_pos h]
theorem chk_4 (g1 : ¬ (op < 0 ∨ 3 < op ∨ (op = 1 ∧ n1 = 0) ∨ (1 < op ∧ n1 ≠ 0))) (g2 : ¬ (16 < n1 ∨ 16 < n2)) (h : P < 0 ∨ 63 < P ∨ (op = 3 ∧ P ≠ 0) ∨ 63 < B ∨ (op = 3 ∧ 0 ≤ B)) : chk op n1 n2 P B true true = 50 := by
 unfold chk; rw [if_neg g1, if_neg g2, if_neg (by decide), if_pos h]
theorem chk_5 (g1 : ¬ (op < 0 ∨ 3 < op ∨ (op = 1 ∧ n1 = 0) ∨ (1 < op ∧ n1 ≠ 0))) (g2 : ¬ (16 < n1 ∨ 16 < n2)) (g4 : ¬ (P < 0 ∨ 63 < P ∨ (op = 3 ∧ P ≠ 0) ∨ 63 < B ∨ (op = 3 ∧ 0 ≤ B))) (h : B < -1 ∨ (B = -1 ∧ n2 ≠ 0) ∨ B = P) : chk op n1 n2 P B true true = 54 := by
 unfold chk; rw [if_neg g1, if_neg g2, if_neg (by decide), if_neg g4, if_pos h]
theorem chk_6 (g1 : ¬ (op < 0 ∨ 3 < op ∨ (op = 1 ∧ n1 = 0) ∨ (1 < op ∧ n1 ≠ 0))) (g2 : ¬ (16 < n1 ∨ 16 < n2)) (g4 : ¬ (P < 0 ∨ 63 < P ∨ (op = 3 ∧ P ≠ 0) ∨ 63 < B ∨ (op = 3 ∧ 0 ≤ B))) (h : ¬ (B < -1 ∨ (B = -1 ∧ n2 ≠ 0) ∨ B = P)) : chk op n1 n2 P B true true = 0 := by
 unfold chk; rw [if_neg g1, if_neg g2, if_neg (by decide), if_neg g4, if_neg h]
end
def RetChk (x : Int) (w : World) (e : Ending) (w' : World) : Prop := e = .returned (.int .i64 x) ∧ Below w.heap.size w w'
theorem hop_Check_off (op P B : Int) (C : Bool) (l r : Value) (w : World) (h : op < 0 ∨ 3 < op) :
  Calls Tryz.prog 144 #[.agg #[.int .i64 op, l, .int .i64 P, .int .i64 B, r, .bool C]] w (RetChk 54 w) := by
 have e0 : (op == 3) = false := by simp; omega
 have HC : Hid (∀ W, Calls Tryz.prog 136 #[.int .i64 op] W fun e w' => e = .returned (.string ⟨#[]⟩) ∧ Below W.heap.size W w') := qh fun W => by
  have := hop_op op W
  rw [show Hp.opW op = [] by unfold Hp.opW; rw [if_neg (by omega), if_neg (by omega), if_neg (by omega), if_neg (by omega)]] at this
  exact this
 clear h
 go_enter Tryz.func144, Tryz.ntmps144
 go_wp2_with fail
 refine (HC.out _).mono ?_
 rintro e w1 ⟨rfl, hb⟩
 go_wp2_with fail
 go_ret
 exact ⟨rfl, belowA2 hb⟩
theorem hop_Check0 (P B : Int) (C a b : Bool) (n1 : Nat) (n2 : Nat) (h1 : n1 ≤ 1073741824) (h2 : n2 ≤ 1073741824) (p1 p2 : Option Addr) (c1 c2 : Nat) (w : World)
  (U1 : ∀ W, Below w.heap.size w W → Calls Tryz.prog 168 #[.slice p1 n1 c1] W fun e w' => e = .returned (.bool (!a)) ∧ Below W.heap.size W w')
  (U2 : ∀ W, Below w.heap.size w W → Calls Tryz.prog 168 #[.slice p2 n2 c2] W fun e w' => e = .returned (.bool (!b)) ∧ Below W.heap.size W w') :
  Calls Tryz.prog 144 #[.agg #[.int .i64 0, .slice p1 n1 c1, .int .i64 P, .int .i64 B, .slice p2 n2 c2, .bool C]] w (RetChk (chk 0 (n1 : Nat) n2 P B a b) w) := by
 have HC : Hid (∀ W, Calls Tryz.prog 136 #[.int .i64 0] W fun e w' => e = .returned (.string ⟨#[112, 117, 115, 104]⟩) ∧ Below W.heap.size W w') := qh fun W => hop_op 0 W
 have H1 := qh U1
 have H2 := qh U2
 clear U1 U2
 by_cases k1 : 16 < n1 ∨ 16 < n2
 ·have hr := chk_2 (op := 0) (n1 := ((n1 : Nat) : Int)) (n2 := (n2 : Int)) (P := P) (B := B) (a := a) (b := b) (by omega) (by omega)
  have HR := qh hr
  have hm : decide (16 < max (n1 : Int) (n2 : Int)) = true := decide_eq_true (by omega)
  have hm2 : 16 < max (n1 : Int) (n2 : Int) := by omega
  clear hr k1
  go_enter Tryz.func144, Tryz.ntmps144
  go_wp2_with fail
  refine (HC.out _).mono ?_
  rintro e w1 ⟨rfl, hb⟩
  obtain ⟨hcc, hcf⟩ := bcell hb
  go_wp2_with fail
  go_ret
  exact ⟨by rw [HR.out]; first | done | rfl, belowA2 hb⟩
 ·have hm : decide (16 < max (n1 : Int) (n2 : Int)) = false := decide_eq_false (by omega)
  have hm2 : ¬ 16 < max (n1 : Int) (n2 : Int) := by omega
  have g1 : ¬ ((0 : Int) < 0 ∨ 3 < (0 : Int) ∨ ((0 : Int) = 1 ∧ ((n1 : Nat) : Int) = 0) ∨ (1 < (0 : Int) ∧ ((n1 : Nat) : Int) ≠ 0)) := by omega
  have g2 : ¬ (16 < ((n1 : Nat) : Int) ∨ 16 < ((n2 : Nat) : Int)) := by omega
  clear g1 g2 k1
  go_enter Tryz.func144, Tryz.ntmps144
  go_wp2_with fail
  refine (HC.out _).mono ?_
  rintro e w1 ⟨rfl, hb⟩
  obtain ⟨hcc, hcf⟩ := bcell hb
  go_wp2_with fail
  refine (H1.out _ (belowA2 hb)).mono ?_
  rintro e w2 ⟨rfl, hb2⟩
  obtain ⟨hcc2, hcf2⟩ := bcell hb2
  have hz : w.heap.size < w1.heap.size := by have := hb.size; simp at this; omega
  have B2 := qh ((belowA2 hb).trans (hb2.mono (belowA2 hb).size))
  cases a
  ·go_wp2_with fail
   go_ret
   exact ⟨by rw [chk_3 (by omega) (by omega) (Or.inl rfl)]; first | done | rfl, B2.out⟩
  go_wp2_with fail
  refine (H2.out _ B2.out).mono ?_
  rintro e w3 ⟨rfl, hb3⟩
  obtain ⟨hcc3, hcf3⟩ := bcell hb3
  have hz2 : w.heap.size < w2.heap.size := by have := hb2.size; omega
  have B3 := qh (B2.out.trans (hb3.mono B2.out.size))
  cases b
  ·go_wp2_with fail
   go_ret
   exact ⟨by rw [chk_3 (by omega) (by omega) (Or.inr rfl)]; first | done | rfl, B3.out⟩
  by_cases q1 : P < 0
  ·have d1 : decide (P < 0) = true := decide_eq_true q1
   go_wp2_with fail
   go_ret
   exact ⟨by rw [chk_4 (by omega) (by omega) (by omega)]; first | done | rfl, B3.out⟩
  have d1 : decide (P < 0) = false := decide_eq_false q1
  by_cases q2 : 64 ≤ P
  ·have d2 : decide (64 ≤ P) = true := decide_eq_true q2
   go_wp2_with fail
   go_ret
   exact ⟨by rw [chk_4 (by omega) (by omega) (by omega)]; first | done | rfl, B3.out⟩
  have d2 : decide (64 ≤ P) = false := decide_eq_false q2
  by_cases q4 : 64 ≤ B
  ·have d4 : decide (64 ≤ B) = true := decide_eq_true q4
   go_wp2_with fail
   go_ret
   exact ⟨by rw [chk_4 (by omega) (by omega) (by omega)]; first | done | rfl, B3.out⟩
  have d4 : decide (64 ≤ B) = false := decide_eq_false q4
  by_cases q6 : B < -1
  ·have d6 : decide (B < -1) = true := decide_eq_true q6
   go_wp2_with fail
   go_ret
   exact ⟨by rw [chk_5 (by omega) (by omega) (by omega) (by omega)]; first | done | rfl, B3.out⟩
  have d6 : decide (B < -1) = false := decide_eq_false q6
  by_cases q7 : B = -1
  ·subst q7
   by_cases q8 : 0 < n2
   ·have d8 : decide (0 < n2) = true := decide_eq_true q8
    go_wp2_with fail
    go_ret
    exact ⟨by rw [chk_5 (by omega) (by omega) (by omega) (by omega)]; first | done | rfl, B3.out⟩
   ·obtain rfl : n2 = 0 := by omega
    have d9 : ((-1 : Int) == P) = false := by simp; omega
    go_wp2_with fail
    go_ret
    exact ⟨by rw [chk_6 (by omega) (by omega) (by omega) (by omega)]; first | done | rfl, B3.out⟩
  have d7 : (B == -1) = false := by simpa using q7
  by_cases q9 : B = P
  ·subst q9
   go_wp2_with fail
   go_ret
   exact ⟨by rw [chk_5 (by omega) (by omega) (by omega) (by omega)]; first | done | rfl, B3.out⟩
  have d9 : (B == P) = false := by simpa using q9
  go_wp2_with fail
  go_ret
  exact ⟨by rw [chk_6 (by omega) (by omega) (by omega) (by omega)]; first | done | rfl, B3.out⟩
theorem hop_Check1 (P B : Int) (C a b : Bool) (n1 : Nat) (n2 : Nat) (hn : 0 < n1) (h1 : n1 ≤ 1073741824) (h2 : n2 ≤ 1073741824) (p1 p2 : Option Addr) (c1 c2 : Nat) (w : World)
  (U1 : ∀ W, Below w.heap.size w W → Calls Tryz.prog 168 #[.slice p1 n1 c1] W fun e w' => e = .returned (.bool (!a)) ∧ Below W.heap.size W w')
  (U2 : ∀ W, Below w.heap.size w W → Calls Tryz.prog 168 #[.slice p2 n2 c2] W fun e w' => e = .returned (.bool (!b)) ∧ Below W.heap.size W w') :
  Calls Tryz.prog 144 #[.agg #[.int .i64 1, .slice p1 n1 c1, .int .i64 P, .int .i64 B, .slice p2 n2 c2, .bool C]] w (RetChk (chk 1 (n1 : Nat) n2 P B a b) w) := by
 have HC : Hid (∀ W, Calls Tryz.prog 136 #[.int .i64 1] W fun e w' => e = .returned (.string ⟨#[115, 119, 97, 112]⟩) ∧ Below W.heap.size W w') := qh fun W => hop_op 1 W
 have H1 := qh U1
 have H2 := qh U2
 clear U1 U2
 have hn0 : (n1 == 0) = false := by simp; omega
 have hn1 : ((n1 : Int) == 0) = false := by simp; omega
 by_cases k1 : 16 < n1 ∨ 16 < n2
 ·have hr := chk_2 (op := 1) (n1 := ((n1 : Nat) : Int)) (n2 := (n2 : Int)) (P := P) (B := B) (a := a) (b := b) (by omega) (by omega)
  have HR := qh hr
  have hm : decide (16 < max (n1 : Int) (n2 : Int)) = true := decide_eq_true (by omega)
  have hm2 : 16 < max (n1 : Int) (n2 : Int) := by omega
  clear hr k1
  go_enter Tryz.func144, Tryz.ntmps144
  go_wp2_with fail
  refine (HC.out _).mono ?_
  rintro e w1 ⟨rfl, hb⟩
  obtain ⟨hcc, hcf⟩ := bcell hb
  go_wp2_with fail
  go_ret
  exact ⟨by rw [HR.out]; first | done | rfl, belowA2 hb⟩
 ·have hm : decide (16 < max (n1 : Int) (n2 : Int)) = false := decide_eq_false (by omega)
  have hm2 : ¬ 16 < max (n1 : Int) (n2 : Int) := by omega
  have g1 : ¬ ((1 : Int) < 0 ∨ 3 < (1 : Int) ∨ ((1 : Int) = 1 ∧ ((n1 : Nat) : Int) = 0) ∨ (1 < (1 : Int) ∧ ((n1 : Nat) : Int) ≠ 0)) := by omega
  have g2 : ¬ (16 < ((n1 : Nat) : Int) ∨ 16 < ((n2 : Nat) : Int)) := by omega
  clear g1 g2 k1
  go_enter Tryz.func144, Tryz.ntmps144
  go_wp2_with fail
  refine (HC.out _).mono ?_
  rintro e w1 ⟨rfl, hb⟩
  obtain ⟨hcc, hcf⟩ := bcell hb
  go_wp2_with fail
  refine (H1.out _ (belowA2 hb)).mono ?_
  rintro e w2 ⟨rfl, hb2⟩
  obtain ⟨hcc2, hcf2⟩ := bcell hb2
  have hz : w.heap.size < w1.heap.size := by have := hb.size; simp at this; omega
  have B2 := qh ((belowA2 hb).trans (hb2.mono (belowA2 hb).size))
  cases a
  ·go_wp2_with fail
   go_ret
   exact ⟨by rw [chk_3 (by omega) (by omega) (Or.inl rfl)]; first | done | rfl, B2.out⟩
  go_wp2_with fail
  refine (H2.out _ B2.out).mono ?_
  rintro e w3 ⟨rfl, hb3⟩
  obtain ⟨hcc3, hcf3⟩ := bcell hb3
  have hz2 : w.heap.size < w2.heap.size := by have := hb2.size; omega
  have B3 := qh (B2.out.trans (hb3.mono B2.out.size))
  cases b
  ·go_wp2_with fail
   go_ret
   exact ⟨by rw [chk_3 (by omega) (by omega) (Or.inr rfl)]; first | done | rfl, B3.out⟩
  by_cases q1 : P < 0
  ·have d1 : decide (P < 0) = true := decide_eq_true q1
   go_wp2_with fail
   go_ret
   exact ⟨by rw [chk_4 (by omega) (by omega) (by omega)]; first | done | rfl, B3.out⟩
  have d1 : decide (P < 0) = false := decide_eq_false q1
  by_cases q2 : 64 ≤ P
  ·have d2 : decide (64 ≤ P) = true := decide_eq_true q2
   go_wp2_with fail
   go_ret
   exact ⟨by rw [chk_4 (by omega) (by omega) (by omega)]; first | done | rfl, B3.out⟩
  have d2 : decide (64 ≤ P) = false := decide_eq_false q2
  by_cases q4 : 64 ≤ B
  ·have d4 : decide (64 ≤ B) = true := decide_eq_true q4
   go_wp2_with fail
   go_ret
   exact ⟨by rw [chk_4 (by omega) (by omega) (by omega)]; first | done | rfl, B3.out⟩
  have d4 : decide (64 ≤ B) = false := decide_eq_false q4
  by_cases q6 : B < -1
  ·have d6 : decide (B < -1) = true := decide_eq_true q6
   go_wp2_with fail
   go_ret
   exact ⟨by rw [chk_5 (by omega) (by omega) (by omega) (by omega)]; first | done | rfl, B3.out⟩
  have d6 : decide (B < -1) = false := decide_eq_false q6
  by_cases q7 : B = -1
  ·subst q7
   by_cases q8 : 0 < n2
   ·have d8 : decide (0 < n2) = true := decide_eq_true q8
    go_wp2_with fail
    go_ret
    exact ⟨by rw [chk_5 (by omega) (by omega) (by omega) (by omega)]; first | done | rfl, B3.out⟩
   ·obtain rfl : n2 = 0 := by omega
    have d9 : ((-1 : Int) == P) = false := by simp; omega
    go_wp2_with fail
    go_ret
    exact ⟨by rw [chk_6 (by omega) (by omega) (by omega) (by omega)]; first | done | rfl, B3.out⟩
  have d7 : (B == -1) = false := by simpa using q7
  by_cases q9 : B = P
  ·subst q9
   go_wp2_with fail
   go_ret
   exact ⟨by rw [chk_5 (by omega) (by omega) (by omega) (by omega)]; first | done | rfl, B3.out⟩
  have d9 : (B == P) = false := by simpa using q9
  go_wp2_with fail
  go_ret
  exact ⟨by rw [chk_6 (by omega) (by omega) (by omega) (by omega)]; first | done | rfl, B3.out⟩
theorem hop_Check2 (P B : Int) (C a b : Bool) (n2 : Nat) (h2 : n2 ≤ 1073741824) (p1 p2 : Option Addr) (c1 c2 : Nat) (w : World)
  (U1 : ∀ W, Below w.heap.size w W → Calls Tryz.prog 168 #[.slice p1 0 c1] W fun e w' => e = .returned (.bool (!a)) ∧ Below W.heap.size W w')
  (U2 : ∀ W, Below w.heap.size w W → Calls Tryz.prog 168 #[.slice p2 n2 c2] W fun e w' => e = .returned (.bool (!b)) ∧ Below W.heap.size W w') :
  Calls Tryz.prog 144 #[.agg #[.int .i64 2, .slice p1 0 c1, .int .i64 P, .int .i64 B, .slice p2 n2 c2, .bool C]] w (RetChk (chk 2 0 n2 P B a b) w) := by
 have HC : Hid (∀ W, Calls Tryz.prog 136 #[.int .i64 2] W fun e w' => e = .returned (.string ⟨#[112, 111, 112]⟩) ∧ Below W.heap.size W w') := qh fun W => hop_op 2 W
 have H1 := qh U1
 have H2 := qh U2
 clear U1 U2
 by_cases k1 : 16 < 0 ∨ 16 < n2
 ·have hr := chk_2 (op := 2) (n1 := 0) (n2 := (n2 : Int)) (P := P) (B := B) (a := a) (b := b) (by omega) (by omega)
  have HR := qh hr
  have hm : decide (16 < max (0 : Int) (n2 : Int)) = true := decide_eq_true (by omega)
  have hm2 : 16 < max (0 : Int) (n2 : Int) := by omega
  clear hr k1
  go_enter Tryz.func144, Tryz.ntmps144
  go_wp2_with fail
  refine (HC.out _).mono ?_
  rintro e w1 ⟨rfl, hb⟩
  obtain ⟨hcc, hcf⟩ := bcell hb
  go_wp2_with fail
  go_ret
  exact ⟨by rw [HR.out]; first | done | rfl, belowA2 hb⟩
 ·have hm : decide (16 < max (0 : Int) (n2 : Int)) = false := decide_eq_false (by omega)
  have hm2 : ¬ 16 < max (0 : Int) (n2 : Int) := by omega
  have g1 : ¬ ((2 : Int) < 0 ∨ 3 < (2 : Int) ∨ ((2 : Int) = 1 ∧ (0 : Int) = 0) ∨ (1 < (2 : Int) ∧ (0 : Int) ≠ 0)) := by omega
  have g2 : ¬ (16 < (0 : Int) ∨ 16 < ((n2 : Nat) : Int)) := by omega
  clear g1 g2 k1
  go_enter Tryz.func144, Tryz.ntmps144
  go_wp2_with fail
  refine (HC.out _).mono ?_
  rintro e w1 ⟨rfl, hb⟩
  obtain ⟨hcc, hcf⟩ := bcell hb
  go_wp2_with fail
  refine (H1.out _ (belowA2 hb)).mono ?_
  rintro e w2 ⟨rfl, hb2⟩
  obtain ⟨hcc2, hcf2⟩ := bcell hb2
  have hz : w.heap.size < w1.heap.size := by have := hb.size; simp at this; omega
  have B2 := qh ((belowA2 hb).trans (hb2.mono (belowA2 hb).size))
  cases a
  ·go_wp2_with fail
   go_ret
   exact ⟨by rw [chk_3 (by omega) (by omega) (Or.inl rfl)]; first | done | rfl, B2.out⟩
  go_wp2_with fail
  refine (H2.out _ B2.out).mono ?_
  rintro e w3 ⟨rfl, hb3⟩
  obtain ⟨hcc3, hcf3⟩ := bcell hb3
  have hz2 : w.heap.size < w2.heap.size := by have := hb2.size; omega
  have B3 := qh (B2.out.trans (hb3.mono B2.out.size))
  cases b
  ·go_wp2_with fail
   go_ret
   exact ⟨by rw [chk_3 (by omega) (by omega) (Or.inr rfl)]; first | done | rfl, B3.out⟩
  by_cases q1 : P < 0
  ·have d1 : decide (P < 0) = true := decide_eq_true q1
   go_wp2_with fail
   go_ret
   exact ⟨by rw [chk_4 (by omega) (by omega) (by omega)]; first | done | rfl, B3.out⟩
  have d1 : decide (P < 0) = false := decide_eq_false q1
  by_cases q2 : 64 ≤ P
  ·have d2 : decide (64 ≤ P) = true := decide_eq_true q2
   go_wp2_with fail
   go_ret
   exact ⟨by rw [chk_4 (by omega) (by omega) (by omega)]; first | done | rfl, B3.out⟩
  have d2 : decide (64 ≤ P) = false := decide_eq_false q2
  by_cases q4 : 64 ≤ B
  ·have d4 : decide (64 ≤ B) = true := decide_eq_true q4
   go_wp2_with fail
   go_ret
   exact ⟨by rw [chk_4 (by omega) (by omega) (by omega)]; first | done | rfl, B3.out⟩
  have d4 : decide (64 ≤ B) = false := decide_eq_false q4
  by_cases q6 : B < -1
  ·have d6 : decide (B < -1) = true := decide_eq_true q6
   go_wp2_with fail
   go_ret
   exact ⟨by rw [chk_5 (by omega) (by omega) (by omega) (by omega)]; first | done | rfl, B3.out⟩
  have d6 : decide (B < -1) = false := decide_eq_false q6
  by_cases q7 : B = -1
  ·subst q7
   by_cases q8 : 0 < n2
   ·have d8 : decide (0 < n2) = true := decide_eq_true q8
    go_wp2_with fail
    go_ret
    exact ⟨by rw [chk_5 (by omega) (by omega) (by omega) (by omega)]; first | done | rfl, B3.out⟩
   ·obtain rfl : n2 = 0 := by omega
    have d9 : ((-1 : Int) == P) = false := by simp; omega
    go_wp2_with fail
    go_ret
    exact ⟨by rw [chk_6 (by omega) (by omega) (by omega) (by omega)]; first | done | rfl, B3.out⟩
  have d7 : (B == -1) = false := by simpa using q7
  by_cases q9 : B = P
  ·subst q9
   go_wp2_with fail
   go_ret
   exact ⟨by rw [chk_5 (by omega) (by omega) (by omega) (by omega)]; first | done | rfl, B3.out⟩
  have d9 : (B == P) = false := by simpa using q9
  go_wp2_with fail
  go_ret
  exact ⟨by rw [chk_6 (by omega) (by omega) (by omega) (by omega)]; first | done | rfl, B3.out⟩
theorem hop_Check3 (P B : Int) (C a b : Bool) (n2 : Nat) (h2 : n2 ≤ 1073741824) (p1 p2 : Option Addr) (c1 c2 : Nat) (w : World)
  (U1 : ∀ W, Below w.heap.size w W → Calls Tryz.prog 168 #[.slice p1 0 c1] W fun e w' => e = .returned (.bool (!a)) ∧ Below W.heap.size W w')
  (U2 : ∀ W, Below w.heap.size w W → Calls Tryz.prog 168 #[.slice p2 n2 c2] W fun e w' => e = .returned (.bool (!b)) ∧ Below W.heap.size W w') :
  Calls Tryz.prog 144 #[.agg #[.int .i64 3, .slice p1 0 c1, .int .i64 P, .int .i64 B, .slice p2 n2 c2, .bool C]] w (RetChk (chk 3 0 n2 P B a b) w) := by
 have HC : Hid (∀ W, Calls Tryz.prog 136 #[.int .i64 3] W fun e w' => e = .returned (.string ⟨#[104, 101, 114, 101]⟩) ∧ Below W.heap.size W w') := qh fun W => hop_op 3 W
 have H1 := qh U1
 have H2 := qh U2
 clear U1 U2
 by_cases k1 : 16 < 0 ∨ 16 < n2
 ·have hr := chk_2 (op := 3) (n1 := 0) (n2 := (n2 : Int)) (P := P) (B := B) (a := a) (b := b) (by omega) (by omega)
  have HR := qh hr
  have hm : decide (16 < max (0 : Int) (n2 : Int)) = true := decide_eq_true (by omega)
  have hm2 : 16 < max (0 : Int) (n2 : Int) := by omega
  clear hr k1
  go_enter Tryz.func144, Tryz.ntmps144
  go_wp2_with fail
  refine (HC.out _).mono ?_
  rintro e w1 ⟨rfl, hb⟩
  obtain ⟨hcc, hcf⟩ := bcell hb
  go_wp2_with fail
  go_ret
  exact ⟨by rw [HR.out]; first | done | rfl, belowA2 hb⟩
 ·have hm : decide (16 < max (0 : Int) (n2 : Int)) = false := decide_eq_false (by omega)
  have hm2 : ¬ 16 < max (0 : Int) (n2 : Int) := by omega
  have g1 : ¬ ((3 : Int) < 0 ∨ 3 < (3 : Int) ∨ ((3 : Int) = 1 ∧ (0 : Int) = 0) ∨ (1 < (3 : Int) ∧ (0 : Int) ≠ 0)) := by omega
  have g2 : ¬ (16 < (0 : Int) ∨ 16 < ((n2 : Nat) : Int)) := by omega
  clear g1 g2 k1
  go_enter Tryz.func144, Tryz.ntmps144
  go_wp2_with fail
  refine (HC.out _).mono ?_
  rintro e w1 ⟨rfl, hb⟩
  obtain ⟨hcc, hcf⟩ := bcell hb
  go_wp2_with fail
  refine (H1.out _ (belowA2 hb)).mono ?_
  rintro e w2 ⟨rfl, hb2⟩
  obtain ⟨hcc2, hcf2⟩ := bcell hb2
  have hz : w.heap.size < w1.heap.size := by have := hb.size; simp at this; omega
  have B2 := qh ((belowA2 hb).trans (hb2.mono (belowA2 hb).size))
  cases a
  ·go_wp2_with fail
   go_ret
   exact ⟨by rw [chk_3 (by omega) (by omega) (Or.inl rfl)]; first | done | rfl, B2.out⟩
  go_wp2_with fail
  refine (H2.out _ B2.out).mono ?_
  rintro e w3 ⟨rfl, hb3⟩
  obtain ⟨hcc3, hcf3⟩ := bcell hb3
  have hz2 : w.heap.size < w2.heap.size := by have := hb2.size; omega
  have B3 := qh (B2.out.trans (hb3.mono B2.out.size))
  cases b
  ·go_wp2_with fail
   go_ret
   exact ⟨by rw [chk_3 (by omega) (by omega) (Or.inr rfl)]; first | done | rfl, B3.out⟩
  by_cases q1 : P < 0
  ·have d1 : decide (P < 0) = true := decide_eq_true q1
   go_wp2_with fail
   go_ret
   exact ⟨by rw [chk_4 (by omega) (by omega) (by omega)]; first | done | rfl, B3.out⟩
  have d1 : decide (P < 0) = false := decide_eq_false q1
  by_cases q2 : 64 ≤ P
  ·have d2 : decide (64 ≤ P) = true := decide_eq_true q2
   go_wp2_with fail
   go_ret
   exact ⟨by rw [chk_4 (by omega) (by omega) (by omega)]; first | done | rfl, B3.out⟩
  have d2 : decide (64 ≤ P) = false := decide_eq_false q2
  by_cases q3 : P = 0
  rotate_left
  ·have d3 : (P != 0) = true := by simpa using q3
   go_wp2_with fail
   go_ret
   exact ⟨by rw [chk_4 (by omega) (by omega) (by omega)]; first | done | rfl, B3.out⟩
  subst q3
  by_cases q4 : 64 ≤ B
  ·have d4 : decide (64 ≤ B) = true := decide_eq_true q4
   go_wp2_with fail
   go_ret
   exact ⟨by rw [chk_4 (by omega) (by omega) (by omega)]; first | done | rfl, B3.out⟩
  have d4 : decide (64 ≤ B) = false := decide_eq_false q4
  by_cases q5 : 0 ≤ B
  ·have d5 : decide (0 ≤ B) = true := decide_eq_true q5
   go_wp2_with fail
   go_ret
   exact ⟨by rw [chk_4 (by omega) (by omega) (by omega)]; first | done | rfl, B3.out⟩
  have d5 : decide (0 ≤ B) = false := decide_eq_false q5
  by_cases q6 : B < -1
  ·have d6 : decide (B < -1) = true := decide_eq_true q6
   go_wp2_with fail
   go_ret
   exact ⟨by rw [chk_5 (by omega) (by omega) (by omega) (by omega)]; first | done | rfl, B3.out⟩
  have d6 : decide (B < -1) = false := decide_eq_false q6
  by_cases q7 : B = -1
  ·subst q7
   by_cases q8 : 0 < n2
   ·have d8 : decide (0 < n2) = true := decide_eq_true q8
    go_wp2_with fail
    go_ret
    exact ⟨by rw [chk_5 (by omega) (by omega) (by omega) (by omega)]; first | done | rfl, B3.out⟩
   ·obtain rfl : n2 = 0 := by omega
    go_wp2_with fail
    go_ret
    exact ⟨by rw [chk_6 (by omega) (by omega) (by omega) (by omega)]; first | done | rfl, B3.out⟩
  have d7 : (B == -1) = false := by simpa using q7
  exfalso; omega
end Go.Proofs.YtdbgeobolongmaaGreatDoor
namespace Go.Proofs.YtdbgeobolongmaaGreatDoor
open Go.RowKit Go.Shelf Go.Proofs Go.OctetPlain
theorem hop_Check_full (op P B : Int) (C : Bool) (n1 n2 : Nat) (p1 p2 : Option Addr) (c1 c2 : Nat) (w : World) (h0 : 2 ≤ op) (h3 : op ≤ 3) (hn : 0 < n1) :
  Calls Tryz.prog 144 #[.agg #[.int .i64 op, .slice p1 n1 c1, .int .i64 P, .int .i64 B, .slice p2 n2 c2, .bool C]] w (RetChk 54 w) := by
 have hcs : op = 2 ∨ op = 3 := by omega
 rcases hcs with rfl | rfl
 ·have HC : Hid (∀ W, Calls Tryz.prog 136 #[.int .i64 2] W fun e w' => e = .returned (.string ⟨#[112, 111, 112]⟩) ∧ Below W.heap.size W w') := qh fun W => hop_op 2 W
  clear h0 h3
  go_enter Tryz.func144, Tryz.ntmps144
  go_wp2_with fail
  refine (HC.out _).mono ?_
  rintro e w1 ⟨rfl, hb⟩
  obtain ⟨hcc, hcf⟩ := bcell hb
  go_wp2_with fail
  go_ret
  exact ⟨rfl, belowA2 hb⟩
 ·have HC : Hid (∀ W, Calls Tryz.prog 136 #[.int .i64 3] W fun e w' => e = .returned (.string ⟨#[104, 101, 114, 101]⟩) ∧ Below W.heap.size W w') := qh fun W => hop_op 3 W
  clear h0 h3
  go_enter Tryz.func144, Tryz.ntmps144
  go_wp2_with fail
  refine (HC.out _).mono ?_
  rintro e w1 ⟨rfl, hb⟩
  obtain ⟨hcc, hcf⟩ := bcell hb
  go_wp2_with fail
  go_ret
  exact ⟨rfl, belowA2 hb⟩
theorem hop_Check_none (P B : Int) (C : Bool) (n2 : Nat) (p1 p2 : Option Addr) (c1 c2 : Nat) (w : World) :
  Calls Tryz.prog 144 #[.agg #[.int .i64 1, .slice p1 0 c1, .int .i64 P, .int .i64 B, .slice p2 n2 c2, .bool C]] w (RetChk 54 w) := by
 have HC : Hid (∀ W, Calls Tryz.prog 136 #[.int .i64 1] W fun e w' => e = .returned (.string ⟨#[115, 119, 97, 112]⟩) ∧ Below W.heap.size W w') := qh fun W => hop_op 1 W
 go_enter Tryz.func144, Tryz.ntmps144
 go_wp2_with fail
 refine (HC.out _).mono ?_
 rintro e w1 ⟨rfl, hb⟩
 obtain ⟨hcc, hcf⟩ := bcell hb
 go_wp2_with fail
 go_ret
 exact ⟨rfl, belowA2 hb⟩
theorem hop_Check (h : Hp.Hop) (h1 : h.labels.length ≤ 1073741824) (h2 : h.repair.length ≤ 1073741824) (l r : Value) (w : World) (hl : SlR w 1 encI l h.labels) (hr : SlR w 1 encI r h.repair) :
  Calls Tryz.prog 144 #[.agg (hopA h l r)] w fun e w' => e = .returned (.int .i64 (Hp.checkR h)) ∧ Below w.heap.size w w' := by
 have U1 : ∀ W, Below w.heap.size w W → Calls Tryz.prog 168 #[l] W fun e w' => e = .returned (.bool (!(h.labels.all Hp.pushed))) ∧ Below W.heap.size W w' := fun W hW => hop_unpushed _ h1 l W (hl.below hW (Nat.le_refl _))
 have U2 : ∀ W, Below w.heap.size w W → Calls Tryz.prog 168 #[r] W fun e w' => e = .returned (.bool (!(h.repair.all Hp.pushed))) ∧ Below W.heap.size W w' := fun W hW => hop_unpushed _ h2 r W (hr.below hW (Nat.le_refl _))
 rw [chk_eq]
 obtain ⟨p1, c1, rfl, -, -, -⟩ := hl
 obtain ⟨p2, c2, rfl, -, -, -⟩ := hr
 obtain ⟨op, L, P, B, R, C⟩ := h
 unfold hopA
 simp only at *
 generalize L.all Hp.pushed = a at *
 generalize R.all Hp.pushed = b at *
 change Calls _ _ _ _ (RetChk _ w)
 by_cases ho : op < 0 ∨ 3 < op
 ·rw [chk_1 (by omega)]
  exact hop_Check_off op P B C _ _ w ho
 by_cases hf : 2 ≤ op ∧ 0 < L.length
 ·rw [chk_1 (by omega)]
  exact hop_Check_full op P B C _ _ p1 p2 c1 c2 w hf.1 (by omega) hf.2
 by_cases hn : op = 1 ∧ L.length = 0
 ·rw [chk_1 (by omega), hn.1, hn.2]
  exact hop_Check_none P B C _ p1 p2 c1 c2 w
 have hcs : op = 0 ∨ op = 1 ∨ op = 2 ∨ op = 3 := by omega
 rcases hcs with rfl | rfl | rfl | rfl
 ·exact hop_Check0 P B C a b _ _ h1 h2 p1 p2 c1 c2 w U1 U2
 ·exact hop_Check1 P B C a b _ _ (by omega) h1 h2 p1 p2 c1 c2 w U1 U2
 ·have h0 : L.length = 0 := by omega
  rw [h0] at U1 ⊢
  exact hop_Check2 P B C a b _ h2 p1 p2 c1 c2 w U1 U2
 ·have h0 : L.length = 0 := by omega
  rw [h0] at U1 ⊢
  exact hop_Check3 P B C a b _ h2 p1 p2 c1 c2 w U1 U2
end Go.Proofs.YtdbgeobolongmaaGreatDoor
namespace Go.Proofs.YtdbgeobolongmaaGreatDoor
open Go.RowKit Go.Shelf Go.Proofs Go.OctetPlain
theorem slr_ints {w : World} {L : List Int} {b off : Nat} (h : RdP w 1 encI (some ⟨b, off, none⟩) L) : ∀ j, j < L.length → w.cell? ⟨b, off + j, none⟩ = some (.int .i64 (L.getD j 0)) := fun j hj => by
 have := h.in hj 0 (.int .i64 L[j]) rfl
 simp only [Nat.mul_one, Nat.add_zero] at this
 rw [this]
 simp [List.getD, List.getElem?_eq_getElem hj]
theorem equalI_any (a b : List Int) (ha : a.length ≤ 1073741824) (hb : b.length ≤ 1073741824) (va vb : Value) (w : World) (hva : SlR w 1 encI va a) (hvb : SlR w 1 encI vb b) :
  Calls Tryz.prog 121 #[va, vb] w fun e w' => e = .returned (.bool (decide (a = b))) ∧ Below w.heap.size w w' := by
 obtain ⟨p1, c1, rfl, h1, h2, R1⟩ := hva
 obtain ⟨p2, c2, rfl, g1, g2, R2⟩ := hvb
 by_cases hl : a.length = b.length
 ·cases p1 with
  | none =>
   have h0 := R1.1 rfl
   have ha0 : a = [] := List.eq_nil_of_length_eq_zero h0
   have hb0 : b = [] := List.eq_nil_of_length_eq_zero (by omega)
   subst ha0; subst hb0
   have hcon := Any.slices_Equal_int_empty Tryz.equalI none p2 c1 0 c2 w (by omega)
   change Calls Tryz.prog 121 _ _ _ at hcon
   exact hcon.mono fun e w' ⟨he, hw⟩ => ⟨by rw [he]; simp, by rw [hw]; exact Below.refl _ _⟩
  | some a1 =>
   by_cases hz : a.length = 0
   ·have ha0 : a = [] := List.eq_nil_of_length_eq_zero hz
    have hb0 : b = [] := List.eq_nil_of_length_eq_zero (by omega)
    subst ha0; subst hb0
    have hcon := Any.slices_Equal_int_empty Tryz.equalI (some a1) p2 c1 0 c2 w (by omega)
    change Calls Tryz.prog 121 _ _ _ at hcon
    exact hcon.mono fun e w' ⟨he, hw⟩ => ⟨by rw [he]; simp, by rw [hw]; exact Below.refl _ _⟩
   obtain ⟨s1, _, _⟩ := R1.2 a1 rfl hz
   cases p2 with
   | none =>
    have h0 := R2.1 rfl
    have hb0 : b = [] := List.eq_nil_of_length_eq_zero h0
    have ha0 : a = [] := List.eq_nil_of_length_eq_zero (by omega)
    subst ha0; subst hb0
    have hcon := Any.slices_Equal_int_empty Tryz.equalI (some a1) none c1 0 c2 w (by omega)
    change Calls Tryz.prog 121 _ _ _ at hcon
    exact hcon.mono fun e w' ⟨he, hw⟩ => ⟨by rw [he]; simp, by rw [hw]; exact Below.refl _ _⟩
   | some a2 =>
    obtain ⟨s2, _, _⟩ := R2.2 a2 rfl (by omega)
    have e1 : a1 = ⟨a1.block, a1.off, none⟩ := by cases a1; simp only at s1; subst s1; rfl
    have e2 : a2 = ⟨a2.block, a2.off, none⟩ := by cases a2; simp only at s2; subst s2; rfl
    rw [e1] at R1 ⊢
    rw [e2] at R2 ⊢
    have hcon := Any.slices_Equal_int Tryz.equalI a1.block a1.off a.length c1 a2.block a2.off b.length c2 a b w (Nat.le_refl _) (Nat.le_refl _) (by omega) (by omega) (slr_ints R1) (slr_ints R2)
    change Calls Tryz.prog 121 _ _ _ at hcon
    refine hcon.mono ?_
    rintro e w' ⟨rfl, q, rfl⟩
    refine ⟨?_, below_drewN (Below.refl _ _) q⟩
    rw [List.take_length, List.take_length]
    congr 1; congr 1
    rw [Bool.eq_iff_iff]; simp
 ·have hcon := Any.slices_Equal_int_lens Tryz.equalI p1 p2 a.length c1 b.length c2 w hl
  change Calls Tryz.prog 121 _ _ _ at hcon
  refine hcon.mono ?_
  rintro e w' ⟨rfl, rfl⟩
  exact ⟨by rw [decide_eq_false (fun h => hl (by rw [h]))], Below.refl _ _⟩
theorem infoHop : (Tryz.prog.info? 29).map (·.size) = some 6 := by kernel_rfl
theorem oneHop (a c d : Int) (p1 p2 : Option Addr) (n1 c1 n2 c2 : Nat) (b : Bool) : (#[Value.int .i64 a, .slice p1 n1 c1, .int .i64 c, .int .i64 d, .slice p2 n2 c2, .bool b] : Array Value).all (·.oneCell') = true := by simp [Value.oneCell']
theorem grown_setRow (w : World) (g : Nat) (cs : Array Value) : w.grownBy (w.setRow g cs) (some g) := by
 refine ⟨rfl, rfl, rfl, ?_, fun k hk hne => setRow_other w g k cs (fun e => hne (by rw [e]))⟩
 show w.heap.size ≤ (w.heap.modify g _).size
 rw [Array.size_modify]; exact Nat.le_refl _
theorem below_setRowH {B : Nat} {w w' : World} (h : Below B w w') {g : Nat} (hg : B ≤ g) (cs : Array Value) : Below B w (w'.setRow g cs) :=
 h.trans ⟨rfl, rfl, rfl, (grown_setRow w' g cs).size, fun k hk => setRow_other w' g k cs (by omega)⟩
structure HopIs (w : World) (h : Hp.Hop) (l r : Value) : Prop where
 n1 : h.labels.length ≤ 1073741824
 n2 : h.repair.length ≤ 1073741824
 sl : SlR w 1 encI l h.labels
 sr : SlR w 1 encI r h.repair
theorem HopIs.below {w w' : World} {h : Hp.Hop} {l r : Value} (H : HopIs w h l r) {B : Nat} (hb : Below B w w') (hB : w.heap.size ≤ B) : HopIs w' h l r := ⟨H.n1, H.n2, H.sl.below hb hB, H.sr.below hb hB⟩
theorem hop_eq (a b : Hp.Hop) : decide (a = b) = (decide (a.op = b.op) && decide (a.port = b.port) && decide (a.backup = b.backup) && decide (a.pipe = b.pipe) && decide (a.labels = b.labels) && decide (a.repair = b.repair)) := by
 obtain ⟨a1, a2, a3, a4, a5, a6⟩ := a
 obtain ⟨b1, b2, b3, b4, b5, b6⟩ := b
 rw [Bool.eq_iff_iff]
 simp only [decide_eq_true_eq, Bool.and_eq_true, Hp.Hop.mk.injEq]
 constructor
 ·rintro ⟨h1, h2, h3, h4, h5, h6⟩; exact ⟨⟨⟨⟨⟨h1, h3⟩, h4⟩, h6⟩, h2⟩, h5⟩
 ·rintro ⟨⟨⟨⟨⟨h1, h3⟩, h4⟩, h6⟩, h2⟩, h5⟩; exact ⟨h1, h2, h3, h4, h5, h6⟩
theorem hop_Same (a b : Hp.Hop) (l1 r1 l2 r2 : Value) (w : World) (A : HopIs w a l1 r1) (B : HopIs w b l2 r2) :
  Calls Tryz.prog 73 #[.agg (hopA a l1 r1), .agg (hopA b l2 r2)] w fun e w' => e = .returned (.bool (decide (a = b))) ∧ Below w.heap.size w w' := by
 rw [hop_eq]
 have H1 : Hid (∀ W, Below w.heap.size w W → Calls Tryz.prog 121 #[l1, l2] W fun e w' => e = .returned (.bool (decide (a.labels = b.labels))) ∧ Below W.heap.size W w') := qh fun W hW => equalI_any _ _ A.n1 B.n1 l1 l2 W (A.sl.below hW (Nat.le_refl _)) (B.sl.below hW (Nat.le_refl _))
 have H2 : Hid (∀ W, Below w.heap.size w W → Calls Tryz.prog 121 #[r1, r2] W fun e w' => e = .returned (.bool (decide (a.repair = b.repair))) ∧ Below W.heap.size W w') := qh fun W hW => equalI_any _ _ A.n2 B.n2 r1 r2 W (A.sr.below hW (Nat.le_refl _)) (B.sr.below hW (Nat.le_refl _))
 obtain ⟨-, -, ⟨p1, c1, rfl, -, -, -⟩, ⟨p2, c2, rfl, -, -, -⟩⟩ := A
 obtain ⟨-, -, ⟨p3, c3, rfl, -, -, -⟩, ⟨p4, c4, rfl, -, -, -⟩⟩ := B
 obtain ⟨o1, L1, q1, k1, R1, s1⟩ := a
 obtain ⟨o2, L2, q2, k2, R2, s2⟩ := b
 unfold hopA
 simp only at *
 have hb0 : ∀ o o', Below w.heap.size w ((w.alloc o).alloc o') := fun o o' => (belowA w o).alloc (by simp) _
 have HB0 := qh hb0
 clear hb0
 generalize decide (L1 = L2) = e1 at *
 generalize decide (R1 = R2) = e2 at *
 by_cases x1 : o1 = o2
 rotate_left
 ·have d : (o1 == o2) = false := by simpa using x1
  rw [decide_eq_false x1]
  simp only [Bool.false_and]
  clear x1
  go_enter Tryz.func73, Tryz.ntmps73
  go_wp2_with fail
  go_ret
  exact ⟨rfl, HB0.out _ _⟩
 subst x1
 by_cases x2 : q1 = q2
 rotate_left
 ·have d : (q1 == q2) = false := by simpa using x2
  rw [decide_eq_false x2]
  simp only [Bool.false_and, Bool.and_false]
  clear x2
  go_enter Tryz.func73, Tryz.ntmps73
  go_wp2_with fail
  go_ret
  exact ⟨rfl, HB0.out _ _⟩
 subst x2
 by_cases x3 : k1 = k2
 rotate_left
 ·have d : (k1 == k2) = false := by simpa using x3
  rw [decide_eq_false x3]
  simp only [Bool.false_and, Bool.and_false]
  clear x3
  go_enter Tryz.func73, Tryz.ntmps73
  go_wp2_with fail
  go_ret
  exact ⟨rfl, HB0.out _ _⟩
 subst x3
 by_cases x4 : s1 = s2
 rotate_left
 ·have d : (s1 == s2) = false := by simpa using x4
  rw [decide_eq_false x4]
  simp only [Bool.false_and, Bool.and_false]
  clear x4
  go_enter Tryz.func73, Tryz.ntmps73
  go_wp2_with fail
  go_ret
  exact ⟨rfl, HB0.out _ _⟩
 subst x4
 simp only [decide_true, Bool.true_and]
 go_enter Tryz.func73, Tryz.ntmps73
 go_wp2_with fail
 refine (H1.out _ (HB0.out _ _)).mono ?_
 rintro e w1 ⟨rfl, hb1⟩
 obtain ⟨hcc, hcf⟩ := bcell hb1
 have hz1 := hb1.size
 have B1 := qh ((HB0.out (.cells #[.int .i64 o1, .slice p1 L1.length c1, .int .i64 q1, .int .i64 k1, .slice p2 R1.length c2, .bool s1] 29) (.cells #[.int .i64 o1, .slice p3 L2.length c3, .int .i64 q1, .int .i64 k1, .slice p4 R2.length c4, .bool s1] 29)).trans (hb1.mono (by simp; omega)))
 cases e1
 ·go_wp2_with fail
  go_ret
  exact ⟨rfl, B1.out⟩
 go_wp2_with fail
 refine (H2.out _ B1.out).mono ?_
 rintro e w2 ⟨rfl, hb2⟩
 have B2 := qh (B1.out.trans (hb2.mono B1.out.size))
 go_wp2_with fail
 go_ret
 exact ⟨rfl, B2.out⟩
end Go.Proofs.YtdbgeobolongmaaGreatDoor
