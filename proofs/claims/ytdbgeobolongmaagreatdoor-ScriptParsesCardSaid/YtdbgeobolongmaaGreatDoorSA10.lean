/- Part of the proof: ScriptLines, ScriptParses, ScriptShows. -/
import Derived.Test.YtdbgeobolongmaaGreatDoorSA08
set_option linter.unusedVariables false
set_option linter.unusedSimpArgs false
set_option maxRecDepth 100000
set_option maxHeartbeats 2000000
namespace Go.Proofs.YtdbgeobolongmaaGreatDoor
open Go.RowKit Go.Shelf Go.Proofs Go.OctetPlain Go.Proofs.Tryz
def hopA (h : Hp.Hop) (l r : Value) : Array Value := #[.int .i64 h.op, l, .int .i64 h.port, .int .i64 h.backup, r, .bool h.pipe]
def chk (op n1 n2 P B : Int) (a b : Bool) : Int :=
 if op < 0 ∨ 3 < op ∨ (op = 1 /\ n1 = 0) ∨ (1 < op /\ n1 ≠ 0) then 54
 else if 16 < n1 ∨ 16 < n2 then 51
 else if a = false ∨ b = false then 40
 else if P < 0 ∨ 63 < P ∨ (op = 3 /\ P ≠ 0) ∨ 63 < B ∨ (op = 3 /\ 0 <= B) then 50
 else if B < -1 ∨ (B = -1 /\ n2 ≠ 0) ∨ B = P then 54
 else 0
theorem chk_eq (h : Hp.Hop) : Hp.checkR h = chk h.op h.labels.length h.repair.length h.port h.backup (h.labels.all Hp.pushed) (h.repair.all Hp.pushed) := by
 have e1 : (h.labels = []) = ((h.labels.length : Int) = 0) := by rw [← List.length_eq_zero_iff]; exact propext om
 have e2 : (h.labels ≠ []) = ((h.labels.length : Int) ≠ 0) := by rw [qR, e1]
 have e3 : (h.repair ≠ []) = ((h.repair.length : Int) ≠ 0) := by rw [qR, ← List.length_eq_zero_iff]; exact propext om
 have c2 : (16 < h.labels.length ∨ 16 < h.repair.length) = (16 < (h.labels.length : Int) ∨ 16 < (h.repair.length : Int)) := propext om; have c3 : ((h.labels.all Hp.pushed && h.repair.all Hp.pushed) = false) = (h.labels.all Hp.pushed = false ∨ h.repair.all Hp.pushed = false) := by cases h.labels.all Hp.pushed <;> cases h.repair.all Hp.pushed <;> simp
 unfold Hp.checkR chk; refine ite_congr (by rw [e1, e2]) (fun _ => rfl) fun _ => ite_congr c2 (fun _ => rfl) fun _ => ite_congr c3 (fun _ => rfl) fun _ => ite_congr rfl (fun _ => rfl) fun _ => ite_congr (by rw [e3]) (fun _ => rfl) fun _ => rfl
section
variable {op n1 n2 P B : Int} {a b : Bool}
theorem chk_1 (h : op < 0 ∨ 3 < op ∨ (op = 1 /\ n1 = 0) ∨ (1 < op /\ n1 ≠ 0)) : chk op n1 n2 P B a b = 54 := by unfold chk; rw [zN h]
theorem zFz (g1 : ¬ (op < 0 ∨ 3 < op ∨ (op = 1 /\ n1 = 0) ∨ (1 < op /\ n1 ≠ 0))) (h : 16 < n1 ∨ 16 < n2) : chk op n1 n2 P B a b = 51 := by unfold chk; rw [zH g1, zN h]
theorem nE (g1 : ¬ (op < 0 ∨ 3 < op ∨ (op = 1 /\ n1 = 0) ∨ (1 < op /\ n1 ≠ 0))) (g2 : ¬ (16 < n1 ∨ 16 < n2)) (h : a = false ∨ b = false) : chk op n1 n2 P B a b = 40 := by unfold chk; rw [zH g1, zH g2, zN h]
theorem bY (g1 : ¬ (op < 0 ∨ 3 < op ∨ (op = 1 /\ n1 = 0) ∨ (1 < op /\ n1 ≠ 0))) (g2 : ¬ (16 < n1 ∨ 16 < n2)) (h : P < 0 ∨ 63 < P ∨ (op = 3 /\ P ≠ 0) ∨ 63 < B ∨ (op = 3 /\ 0 <= B)) : chk op n1 n2 P B true true = 50 := by
 unfold chk; rw [zH g1, zH g2, zH zd, zN h]
theorem rR (g1 : ¬ (op < 0 ∨ 3 < op ∨ (op = 1 /\ n1 = 0) ∨ (1 < op /\ n1 ≠ 0))) (g2 : ¬ (16 < n1 ∨ 16 < n2)) (g4 : ¬ (P < 0 ∨ 63 < P ∨ (op = 3 /\ P ≠ 0) ∨ 63 < B ∨ (op = 3 /\ 0 <= B))) (h : B < -1 ∨ (B = -1 /\ n2 ≠ 0) ∨ B = P) : chk op n1 n2 P B true true = 54 := by
 unfold chk; rw [zH g1, zH g2, zH zd, zH g4, zN h]
theorem oQ (g1 : ¬ (op < 0 ∨ 3 < op ∨ (op = 1 /\ n1 = 0) ∨ (1 < op /\ n1 ≠ 0))) (g2 : ¬ (16 < n1 ∨ 16 < n2)) (g4 : ¬ (P < 0 ∨ 63 < P ∨ (op = 3 /\ P ≠ 0) ∨ 63 < B ∨ (op = 3 /\ 0 <= B))) (h : ¬ (B < -1 ∨ (B = -1 /\ n2 ≠ 0) ∨ B = P)) : chk op n1 n2 P B true true = 0 := by
 unfold chk; rw [zH g1, zH g2, zH zd, zH g4, zH h]
end
def sM (x : Int) (w : World) (e : Ending) (w' : World) : Prop := e = .returned (.int .i64 x) /\ zW w w'
theorem hop_Check_off (op P B : Int) (C : Bool) (l r : Value) (w : World) (h : op < 0 ∨ 3 < op) :
  Calls prog 144 #[.agg #[.int .i64 op, l, .int .i64 P, .int .i64 B, r, .bool C]] w (sM 54 w) := by
 have e0 : (op == 3) = false := zo
 have HC : Hid (∀ W, zCB 136 #[.int .i64 op] W (.string ⟨#[]⟩)) := qh fun W => by
  have := nO op W; rw [show Hp.opW op = [] by unfold Hp.opW; rw [zH om, zH om, zH om, zH om]] at this; exact this
 clear h
 go_enter func144, ntmps144
 go_wp2_with fail
 refine zT (HC.o _) fun w1 hb => ?_
 go_wp2
 go_ret
 exact ⟨rfl, kD hb⟩
theorem hop_Check0 (P B : Int) (C a b : Bool) (n1 : Nat) (n2 : Nat) (h1 : n1 <= 1073741824) (h2 : n2 <= 1073741824) (p1 p2 : Option Addr) (c1 c2 : Nat) (w : World)
  (U1 : ∀ W, zW w W -> zCB 168 #[.slice p1 n1 c1] W (.bool (!a)))
  (U2 : ∀ W, zW w W -> zCB 168 #[.slice p2 n2 c2] W (.bool (!b))) :
  Calls prog 144 #[.agg #[.int .i64 0, .slice p1 n1 c1, .int .i64 P, .int .i64 B, .slice p2 n2 c2, .bool C]] w (sM (chk 0 (n1 : Nat) n2 P B a b) w) := by
 have HC : Hid (∀ W, zCB 136 #[.int .i64 0] W (.string ⟨#[112, 117, 115, 104]⟩)) := qh fun W => nO 0 W; have H1 := qh U1; have H2 := qh U2; clear U1 U2
 by_cases k1 : 16 < n1 ∨ 16 < n2
 ·have hr := zFz (op := 0) (n1 := ((n1 : Nat) : Int)) (n2 := (n2 : Int)) (P := P) (B := B) (a := a) (b := b) om om
  have HR := qh hr; have hm : decide (16 < max (n1 : Int) (n2 : Int)) = true := zV om; have hm2 : 16 < max (n1 : Int) (n2 : Int) := om; clear hr k1
  go_enter func144, ntmps144
  go_wp2_with fail
  refine zT (HC.o _) fun w1 hb => ?_; obtain ⟨hcc, hcf⟩ := aX hb
  go_wp2
  go_ret
  exact ⟨by rw [HR.o]; first | done | rfl, kD hb⟩
 ·have hm : decide (16 < max (n1 : Int) (n2 : Int)) = false := zM om
  have hm2 : ¬ 16 < max (n1 : Int) (n2 : Int) := om; have g1 : ¬ ((0 : Int) < 0 ∨ 3 < (0 : Int) ∨ ((0 : Int) = 1 /\ ((n1 : Nat) : Int) = 0) ∨ (1 < (0 : Int) /\ ((n1 : Nat) : Int) ≠ 0)) := om; have g2 : ¬ (16 < ((n1 : Nat) : Int) ∨ 16 < ((n2 : Nat) : Int)) := om; clear g1 g2 k1
  go_enter func144, ntmps144
  go_wp2_with fail
  refine zT (HC.o _) fun w1 hb => ?_; obtain ⟨hcc, hcf⟩ := aX hb; go_wp2_with fail
  refine zT (H1.o _ (kD hb)) fun w2 hb2 => ?_; obtain ⟨hcc2, hcf2⟩ := aX hb2; have hz : w.heap.size < w1.heap.size := by have := hb.size; simp at this; omega
  have B2 := qh ((kD hb).trans (hb2.mono (kD hb).size))
  cases a
  ·go_wp2
   go_ret
   exact ⟨by rw [nE om om (Or.inl rfl)]; first | done | rfl, B2.o⟩
  go_wp2_with fail
  refine zT (H2.o _ B2.o) fun w3 hb3 => ?_; obtain ⟨hcc3, hcf3⟩ := aX hb3; have hz2 : w.heap.size < w2.heap.size := by have := hb2.size; omega
  have B3 := qh (B2.o.trans (hb3.mono B2.o.size))
  cases b
  ·go_wp2
   go_ret
   exact ⟨by rw [nE om om (Or.inr rfl)]; first | done | rfl, B3.o⟩
  by_cases q1 : P < 0
  ·have d1 : decide (P < 0) = true := zV q1
   go_wp2
   go_ret
   exact ⟨by rw [bY om om om]; first | done | rfl, B3.o⟩
  have d1 : decide (P < 0) = false := zM q1
  by_cases q2 : 64 <= P
  ·have d2 : decide (64 <= P) = true := zV q2
   go_wp2
   go_ret
   exact ⟨by rw [bY om om om]; first | done | rfl, B3.o⟩
  have d2 : decide (64 <= P) = false := zM q2
  by_cases q4 : 64 <= B
  ·have d4 : decide (64 <= B) = true := zV q4
   go_wp2
   go_ret
   exact ⟨by rw [bY om om om]; first | done | rfl, B3.o⟩
  have d4 : decide (64 <= B) = false := zM q4
  by_cases q6 : B < -1
  ·have d6 : decide (B < -1) = true := zV q6
   go_wp2
   go_ret
   exact ⟨by rw [rR om om om om]; first | done | rfl, B3.o⟩
  have d6 : decide (B < -1) = false := zM q6
  by_cases q7 : B = -1
  ·subst q7
   by_cases q8 : 0 < n2
   ·have d8 : decide (0 < n2) = true := zV q8
    go_wp2
    go_ret
    exact ⟨by rw [rR om om om om]; first | done | rfl, B3.o⟩
   ·obtain rfl : n2 = 0 := om
    have d9 : ((-1 : Int) == P) = false := zo
    go_wp2
    go_ret
    exact ⟨by rw [oQ om om om om]; first | done | rfl, B3.o⟩
  have d7 : (B == -1) = false := by simpa using q7
  by_cases q9 : B = P
  ·subst q9
   go_wp2
   go_ret
   exact ⟨by rw [rR om om om om]; first | done | rfl, B3.o⟩
  have d9 : (B == P) = false := by simpa using q9
  go_wp2
  go_ret
  exact ⟨by rw [oQ om om om om]; first | done | rfl, B3.o⟩
theorem hop_Check1 (P B : Int) (C a b : Bool) (n1 : Nat) (n2 : Nat) (hn : 0 < n1) (h1 : n1 <= 1073741824) (h2 : n2 <= 1073741824) (p1 p2 : Option Addr) (c1 c2 : Nat) (w : World)
  (U1 : ∀ W, zW w W -> zCB 168 #[.slice p1 n1 c1] W (.bool (!a)))
  (U2 : ∀ W, zW w W -> zCB 168 #[.slice p2 n2 c2] W (.bool (!b))) :
  Calls prog 144 #[.agg #[.int .i64 1, .slice p1 n1 c1, .int .i64 P, .int .i64 B, .slice p2 n2 c2, .bool C]] w (sM (chk 1 (n1 : Nat) n2 P B a b) w) := by
 have HC : Hid (∀ W, zCB 136 #[.int .i64 1] W (.string ⟨#[115, 119, 97, 112]⟩)) := qh fun W => nO 1 W; have H1 := qh U1; have H2 := qh U2; clear U1 U2; have hn0 : (n1 == 0) = false := zo; have hn1 : ((n1 : Int) == 0) = false := zo
 by_cases k1 : 16 < n1 ∨ 16 < n2
 ·have hr := zFz (op := 1) (n1 := ((n1 : Nat) : Int)) (n2 := (n2 : Int)) (P := P) (B := B) (a := a) (b := b) om om
  have HR := qh hr; have hm : decide (16 < max (n1 : Int) (n2 : Int)) = true := zV om; have hm2 : 16 < max (n1 : Int) (n2 : Int) := om; clear hr k1
  go_enter func144, ntmps144
  go_wp2_with fail
  refine zT (HC.o _) fun w1 hb => ?_; obtain ⟨hcc, hcf⟩ := aX hb
  go_wp2
  go_ret
  exact ⟨by rw [HR.o]; first | done | rfl, kD hb⟩
 ·have hm : decide (16 < max (n1 : Int) (n2 : Int)) = false := zM om
  have hm2 : ¬ 16 < max (n1 : Int) (n2 : Int) := om; have g1 : ¬ ((1 : Int) < 0 ∨ 3 < (1 : Int) ∨ ((1 : Int) = 1 /\ ((n1 : Nat) : Int) = 0) ∨ (1 < (1 : Int) /\ ((n1 : Nat) : Int) ≠ 0)) := om; have g2 : ¬ (16 < ((n1 : Nat) : Int) ∨ 16 < ((n2 : Nat) : Int)) := om; clear g1 g2 k1
  go_enter func144, ntmps144
  go_wp2_with fail
  refine zT (HC.o _) fun w1 hb => ?_; obtain ⟨hcc, hcf⟩ := aX hb; go_wp2_with fail
  refine zT (H1.o _ (kD hb)) fun w2 hb2 => ?_; obtain ⟨hcc2, hcf2⟩ := aX hb2; have hz : w.heap.size < w1.heap.size := by have := hb.size; simp at this; omega
  have B2 := qh ((kD hb).trans (hb2.mono (kD hb).size))
  cases a
  ·go_wp2
   go_ret
   exact ⟨by rw [nE om om (Or.inl rfl)]; first | done | rfl, B2.o⟩
  go_wp2_with fail
  refine zT (H2.o _ B2.o) fun w3 hb3 => ?_; obtain ⟨hcc3, hcf3⟩ := aX hb3; have hz2 : w.heap.size < w2.heap.size := by have := hb2.size; omega
  have B3 := qh (B2.o.trans (hb3.mono B2.o.size))
  cases b
  ·go_wp2
   go_ret
   exact ⟨by rw [nE om om (Or.inr rfl)]; first | done | rfl, B3.o⟩
  by_cases q1 : P < 0
  ·have d1 : decide (P < 0) = true := zV q1
   go_wp2
   go_ret
   exact ⟨by rw [bY om om om]; first | done | rfl, B3.o⟩
  have d1 : decide (P < 0) = false := zM q1
  by_cases q2 : 64 <= P
  ·have d2 : decide (64 <= P) = true := zV q2
   go_wp2
   go_ret
   exact ⟨by rw [bY om om om]; first | done | rfl, B3.o⟩
  have d2 : decide (64 <= P) = false := zM q2
  by_cases q4 : 64 <= B
  ·have d4 : decide (64 <= B) = true := zV q4
   go_wp2
   go_ret
   exact ⟨by rw [bY om om om]; first | done | rfl, B3.o⟩
  have d4 : decide (64 <= B) = false := zM q4
  by_cases q6 : B < -1
  ·have d6 : decide (B < -1) = true := zV q6
   go_wp2
   go_ret
   exact ⟨by rw [rR om om om om]; first | done | rfl, B3.o⟩
  have d6 : decide (B < -1) = false := zM q6
  by_cases q7 : B = -1
  ·subst q7
   by_cases q8 : 0 < n2
   ·have d8 : decide (0 < n2) = true := zV q8
    go_wp2
    go_ret
    exact ⟨by rw [rR om om om om]; first | done | rfl, B3.o⟩
   ·obtain rfl : n2 = 0 := om
    have d9 : ((-1 : Int) == P) = false := zo
    go_wp2
    go_ret
    exact ⟨by rw [oQ om om om om]; first | done | rfl, B3.o⟩
  have d7 : (B == -1) = false := by simpa using q7
  by_cases q9 : B = P
  ·subst q9
   go_wp2
   go_ret
   exact ⟨by rw [rR om om om om]; first | done | rfl, B3.o⟩
  have d9 : (B == P) = false := by simpa using q9
  go_wp2
  go_ret
  exact ⟨by rw [oQ om om om om]; first | done | rfl, B3.o⟩
theorem hop_Check2 (P B : Int) (C a b : Bool) (n2 : Nat) (h2 : n2 <= 1073741824) (p1 p2 : Option Addr) (c1 c2 : Nat) (w : World)
  (U1 : ∀ W, zW w W -> zCB 168 #[.slice p1 0 c1] W (.bool (!a)))
  (U2 : ∀ W, zW w W -> zCB 168 #[.slice p2 n2 c2] W (.bool (!b))) :
  Calls prog 144 #[.agg #[.int .i64 2, .slice p1 0 c1, .int .i64 P, .int .i64 B, .slice p2 n2 c2, .bool C]] w (sM (chk 2 0 n2 P B a b) w) := by
 have HC : Hid (∀ W, zCB 136 #[.int .i64 2] W (.string ⟨#[112, 111, 112]⟩)) := qh fun W => nO 2 W; have H1 := qh U1; have H2 := qh U2; clear U1 U2
 by_cases k1 : 16 < 0 ∨ 16 < n2
 ·have hr := zFz (op := 2) (n1 := 0) (n2 := (n2 : Int)) (P := P) (B := B) (a := a) (b := b) om om
  have HR := qh hr; have hm : decide (16 < max (0 : Int) (n2 : Int)) = true := zV om; have hm2 : 16 < max (0 : Int) (n2 : Int) := om; clear hr k1
  go_enter func144, ntmps144
  go_wp2_with fail
  refine zT (HC.o _) fun w1 hb => ?_; obtain ⟨hcc, hcf⟩ := aX hb
  go_wp2
  go_ret
  exact ⟨by rw [HR.o]; first | done | rfl, kD hb⟩
 ·have hm : decide (16 < max (0 : Int) (n2 : Int)) = false := zM om
  have hm2 : ¬ 16 < max (0 : Int) (n2 : Int) := om; have g1 : ¬ ((2 : Int) < 0 ∨ 3 < (2 : Int) ∨ ((2 : Int) = 1 /\ (0 : Int) = 0) ∨ (1 < (2 : Int) /\ (0 : Int) ≠ 0)) := om; have g2 : ¬ (16 < (0 : Int) ∨ 16 < ((n2 : Nat) : Int)) := om; clear g1 g2 k1
  go_enter func144, ntmps144
  go_wp2_with fail
  refine zT (HC.o _) fun w1 hb => ?_; obtain ⟨hcc, hcf⟩ := aX hb; go_wp2_with fail
  refine zT (H1.o _ (kD hb)) fun w2 hb2 => ?_; obtain ⟨hcc2, hcf2⟩ := aX hb2; have hz : w.heap.size < w1.heap.size := by have := hb.size; simp at this; omega
  have B2 := qh ((kD hb).trans (hb2.mono (kD hb).size))
  cases a
  ·go_wp2
   go_ret
   exact ⟨by rw [nE om om (Or.inl rfl)]; first | done | rfl, B2.o⟩
  go_wp2_with fail
  refine zT (H2.o _ B2.o) fun w3 hb3 => ?_; obtain ⟨hcc3, hcf3⟩ := aX hb3; have hz2 : w.heap.size < w2.heap.size := by have := hb2.size; omega
  have B3 := qh (B2.o.trans (hb3.mono B2.o.size))
  cases b
  ·go_wp2
   go_ret
   exact ⟨by rw [nE om om (Or.inr rfl)]; first | done | rfl, B3.o⟩
  by_cases q1 : P < 0
  ·have d1 : decide (P < 0) = true := zV q1
   go_wp2
   go_ret
   exact ⟨by rw [bY om om om]; first | done | rfl, B3.o⟩
  have d1 : decide (P < 0) = false := zM q1
  by_cases q2 : 64 <= P
  ·have d2 : decide (64 <= P) = true := zV q2
   go_wp2
   go_ret
   exact ⟨by rw [bY om om om]; first | done | rfl, B3.o⟩
  have d2 : decide (64 <= P) = false := zM q2
  by_cases q4 : 64 <= B
  ·have d4 : decide (64 <= B) = true := zV q4
   go_wp2
   go_ret
   exact ⟨by rw [bY om om om]; first | done | rfl, B3.o⟩
  have d4 : decide (64 <= B) = false := zM q4
  by_cases q6 : B < -1
  ·have d6 : decide (B < -1) = true := zV q6
   go_wp2
   go_ret
   exact ⟨by rw [rR om om om om]; first | done | rfl, B3.o⟩
  have d6 : decide (B < -1) = false := zM q6
  by_cases q7 : B = -1
  ·subst q7
   by_cases q8 : 0 < n2
   ·have d8 : decide (0 < n2) = true := zV q8
    go_wp2
    go_ret
    exact ⟨by rw [rR om om om om]; first | done | rfl, B3.o⟩
   ·obtain rfl : n2 = 0 := om
    have d9 : ((-1 : Int) == P) = false := zo
    go_wp2
    go_ret
    exact ⟨by rw [oQ om om om om]; first | done | rfl, B3.o⟩
  have d7 : (B == -1) = false := by simpa using q7
  by_cases q9 : B = P
  ·subst q9
   go_wp2
   go_ret
   exact ⟨by rw [rR om om om om]; first | done | rfl, B3.o⟩
  have d9 : (B == P) = false := by simpa using q9
  go_wp2
  go_ret
  exact ⟨by rw [oQ om om om om]; first | done | rfl, B3.o⟩
theorem hop_Check3 (P B : Int) (C a b : Bool) (n2 : Nat) (h2 : n2 <= 1073741824) (p1 p2 : Option Addr) (c1 c2 : Nat) (w : World)
  (U1 : ∀ W, zW w W -> zCB 168 #[.slice p1 0 c1] W (.bool (!a)))
  (U2 : ∀ W, zW w W -> zCB 168 #[.slice p2 n2 c2] W (.bool (!b))) :
  Calls prog 144 #[.agg #[.int .i64 3, .slice p1 0 c1, .int .i64 P, .int .i64 B, .slice p2 n2 c2, .bool C]] w (sM (chk 3 0 n2 P B a b) w) := by
 have HC : Hid (∀ W, zCB 136 #[.int .i64 3] W (.string ⟨#[104, 101, 114, 101]⟩)) := qh fun W => nO 3 W; have H1 := qh U1; have H2 := qh U2; clear U1 U2
 by_cases k1 : 16 < 0 ∨ 16 < n2
 ·have hr := zFz (op := 3) (n1 := 0) (n2 := (n2 : Int)) (P := P) (B := B) (a := a) (b := b) om om
  have HR := qh hr; have hm : decide (16 < max (0 : Int) (n2 : Int)) = true := zV om; have hm2 : 16 < max (0 : Int) (n2 : Int) := om; clear hr k1
  go_enter func144, ntmps144
  go_wp2_with fail
  refine zT (HC.o _) fun w1 hb => ?_; obtain ⟨hcc, hcf⟩ := aX hb
  go_wp2
  go_ret
  exact ⟨by rw [HR.o]; first | done | rfl, kD hb⟩
 ·have hm : decide (16 < max (0 : Int) (n2 : Int)) = false := zM om
  have hm2 : ¬ 16 < max (0 : Int) (n2 : Int) := om; have g1 : ¬ ((3 : Int) < 0 ∨ 3 < (3 : Int) ∨ ((3 : Int) = 1 /\ (0 : Int) = 0) ∨ (1 < (3 : Int) /\ (0 : Int) ≠ 0)) := om; have g2 : ¬ (16 < (0 : Int) ∨ 16 < ((n2 : Nat) : Int)) := om; clear g1 g2 k1
  go_enter func144, ntmps144
  go_wp2_with fail
  refine zT (HC.o _) fun w1 hb => ?_; obtain ⟨hcc, hcf⟩ := aX hb; go_wp2_with fail
  refine zT (H1.o _ (kD hb)) fun w2 hb2 => ?_; obtain ⟨hcc2, hcf2⟩ := aX hb2; have hz : w.heap.size < w1.heap.size := by have := hb.size; simp at this; omega
  have B2 := qh ((kD hb).trans (hb2.mono (kD hb).size))
  cases a
  ·go_wp2
   go_ret
   exact ⟨by rw [nE om om (Or.inl rfl)]; first | done | rfl, B2.o⟩
  go_wp2_with fail
  refine zT (H2.o _ B2.o) fun w3 hb3 => ?_; obtain ⟨hcc3, hcf3⟩ := aX hb3; have hz2 : w.heap.size < w2.heap.size := by have := hb2.size; omega
  have B3 := qh (B2.o.trans (hb3.mono B2.o.size))
  cases b
  ·go_wp2
   go_ret
   exact ⟨by rw [nE om om (Or.inr rfl)]; first | done | rfl, B3.o⟩
  by_cases q1 : P < 0
  ·have d1 : decide (P < 0) = true := zV q1
   go_wp2
   go_ret
   exact ⟨by rw [bY om om om]; first | done | rfl, B3.o⟩
  have d1 : decide (P < 0) = false := zM q1
  by_cases q2 : 64 <= P
  ·have d2 : decide (64 <= P) = true := zV q2
   go_wp2
   go_ret
   exact ⟨by rw [bY om om om]; first | done | rfl, B3.o⟩
  have d2 : decide (64 <= P) = false := zM q2
  by_cases q3 : P = 0
  rotate_left
  ·have d3 : (P != 0) = true := by simpa using q3
   go_wp2
   go_ret
   exact ⟨by rw [bY om om om]; first | done | rfl, B3.o⟩
  subst q3
  by_cases q4 : 64 <= B
  ·have d4 : decide (64 <= B) = true := zV q4
   go_wp2
   go_ret
   exact ⟨by rw [bY om om om]; first | done | rfl, B3.o⟩
  have d4 : decide (64 <= B) = false := zM q4
  by_cases q5 : 0 <= B
  ·have d5 : decide (0 <= B) = true := zV q5
   go_wp2
   go_ret
   exact ⟨by rw [bY om om om]; first | done | rfl, B3.o⟩
  have d5 : decide (0 <= B) = false := zM q5
  by_cases q6 : B < -1
  ·have d6 : decide (B < -1) = true := zV q6
   go_wp2
   go_ret
   exact ⟨by rw [rR om om om om]; first | done | rfl, B3.o⟩
  have d6 : decide (B < -1) = false := zM q6
  by_cases q7 : B = -1
  ·subst q7
   by_cases q8 : 0 < n2
   ·have d8 : decide (0 < n2) = true := zV q8
    go_wp2
    go_ret
    exact ⟨by rw [rR om om om om]; first | done | rfl, B3.o⟩
   ·obtain rfl : n2 = 0 := om
    go_wp2
    go_ret
    exact ⟨by rw [oQ om om om om]; first | done | rfl, B3.o⟩
  have d7 : (B == -1) = false := by simpa using q7
  exfalso; omega
theorem hop_Check_full (op P B : Int) (C : Bool) (n1 n2 : Nat) (p1 p2 : Option Addr) (c1 c2 : Nat) (w : World) (h0 : 2 <= op) (h3 : op <= 3) (hn : 0 < n1) :
  Calls prog 144 #[.agg #[.int .i64 op, .slice p1 n1 c1, .int .i64 P, .int .i64 B, .slice p2 n2 c2, .bool C]] w (sM 54 w) := by
 have hcs : op = 2 ∨ op = 3 := om
 rcases hcs with rfl | rfl
 ·have HC : Hid (∀ W, zCB 136 #[.int .i64 2] W (.string ⟨#[112, 111, 112]⟩)) := qh fun W => nO 2 W
  clear h0 h3
  go_enter func144, ntmps144
  go_wp2_with fail
  refine zT (HC.o _) fun w1 hb => ?_; obtain ⟨hcc, hcf⟩ := aX hb
  go_wp2
  go_ret
  exact ⟨rfl, kD hb⟩
 ·have HC : Hid (∀ W, zCB 136 #[.int .i64 3] W (.string ⟨#[104, 101, 114, 101]⟩)) := qh fun W => nO 3 W
  clear h0 h3
  go_enter func144, ntmps144
  go_wp2_with fail
  refine zT (HC.o _) fun w1 hb => ?_; obtain ⟨hcc, hcf⟩ := aX hb
  go_wp2
  go_ret
  exact ⟨rfl, kD hb⟩
theorem hop_Check_none (P B : Int) (C : Bool) (n2 : Nat) (p1 p2 : Option Addr) (c1 c2 : Nat) (w : World) :
  Calls prog 144 #[.agg #[.int .i64 1, .slice p1 0 c1, .int .i64 P, .int .i64 B, .slice p2 n2 c2, .bool C]] w (sM 54 w) := by
 have HC : Hid (∀ W, zCB 136 #[.int .i64 1] W (.string ⟨#[115, 119, 97, 112]⟩)) := qh fun W => nO 1 W
 go_enter func144, ntmps144
 go_wp2_with fail
 refine zT (HC.o _) fun w1 hb => ?_; obtain ⟨hcc, hcf⟩ := aX hb
 go_wp2
 go_ret
 exact ⟨rfl, kD hb⟩
theorem hop_Check (h : Hp.Hop) (h1 : h.labels.length <= 1073741824) (h2 : h.repair.length <= 1073741824) (l r : Value) (w : World) (hl : SlR w 1 encI l h.labels) (hr : SlR w 1 encI r h.repair) :
  zCB 144 #[.agg (hopA h l r)] w (.int .i64 (Hp.checkR h)) := by
 have U1 : ∀ W, zW w W -> zCB 168 #[l] W (.bool (!(h.labels.all Hp.pushed))) := fun W hW => zDa _ h1 l W (hl.below hW zn); have U2 : ∀ W, zW w W -> zCB 168 #[r] W (.bool (!(h.repair.all Hp.pushed))) := fun W hW => zDa _ h2 r W (hr.below hW zn); rw [chk_eq]; obtain ⟨p1, c1, rfl, -, -, -⟩ := hl; obtain ⟨p2, c2, rfl, -, -, -⟩ := hr; obtain ⟨op, L, P, B, R, C⟩ := h; unfold hopA; simp only at *; generalize L.all Hp.pushed = a at *; generalize R.all Hp.pushed = b at *; change Calls _ _ _ _ (sM _ w)
 by_cases ho : op < 0 ∨ 3 < op
 ·rw [chk_1 om]
  exact hop_Check_off op P B C _ _ w ho
 by_cases hf : 2 <= op /\ 0 < L.length
 ·rw [chk_1 om]
  exact hop_Check_full op P B C _ _ p1 p2 c1 c2 w hf.1 om hf.2
 by_cases hn : op = 1 /\ L.length = 0
 ·rw [chk_1 om, hn.1, hn.2]
  exact hop_Check_none P B C _ p1 p2 c1 c2 w
 have hcs : op = 0 ∨ op = 1 ∨ op = 2 ∨ op = 3 := om
 rcases hcs with rfl | rfl | rfl | rfl
 ·exact hop_Check0 P B C a b _ _ h1 h2 p1 p2 c1 c2 w U1 U2
 ·exact hop_Check1 P B C a b _ _ om h1 h2 p1 p2 c1 c2 w U1 U2
 ·have h0 : L.length = 0 := om
  rw [h0] at U1 ⊢; exact hop_Check2 P B C a b _ h2 p1 p2 c1 c2 w U1 U2
 ·have h0 : L.length = 0 := om
  rw [h0] at U1 ⊢; exact hop_Check3 P B C a b _ h2 p1 p2 c1 c2 w U1 U2
theorem slr_ints {w : World} {L : List Int} {b off : Nat} (h : RdP w 1 encI (some ⟨b, off, none⟩) L) : ∀ j, j < L.length -> w.cell? ⟨b, off + j, none⟩ = some (.int .i64 (L.getD j 0)) := fun j hj => by
 have := h.in hj 0 (.int .i64 L[j]) rfl; simp only [jN, xN] at this; rw [this]; simp [List.getD, zA hj]
theorem equalI_any (a b : List Int) (ha : a.length <= 1073741824) (hb : b.length <= 1073741824) (va vb : Value) (w : World) (hva : SlR w 1 encI va a) (hvb : SlR w 1 encI vb b) :
  zCB 121 #[va, vb] w (.bool (decide (a = b))) := by
 obtain ⟨p1, c1, rfl, h1, h2, R1⟩ := hva; obtain ⟨p2, c2, rfl, g1, g2, R2⟩ := hvb
 by_cases hl : a.length = b.length
 ·cases p1 with
  |none =>
   have h0 := R1.1 rfl; have ha0 : a = [] := zX h0; have hb0 : b = [] := zX om; subst ha0; subst hb0; have hcon := Any.slices_Equal_int_empty Tryz.equalI none p2 c1 0 c2 w om; change Calls prog 121 _ _ _ at hcon; exact hcon.mono fun e w' ⟨he, hw⟩ => ⟨by rw [he]; simp, by rw [hw]; exact xE _ _⟩
  |some a1 =>
   by_cases hz : a.length = 0
   ·have ha0 : a = [] := zX hz
    have hb0 : b = [] := zX om; subst ha0; subst hb0; have hcon := Any.slices_Equal_int_empty Tryz.equalI (some a1) p2 c1 0 c2 w om; change Calls prog 121 _ _ _ at hcon; exact hcon.mono fun e w' ⟨he, hw⟩ => ⟨by rw [he]; simp, by rw [hw]; exact xE _ _⟩
   obtain ⟨s1, _, _⟩ := R1.2 a1 rfl hz
   cases p2 with
   |none =>
    have h0 := R2.1 rfl; have hb0 : b = [] := zX h0; have ha0 : a = [] := zX om; subst ha0; subst hb0; have hcon := Any.slices_Equal_int_empty Tryz.equalI (some a1) none c1 0 c2 w om; change Calls prog 121 _ _ _ at hcon; exact hcon.mono fun e w' ⟨he, hw⟩ => ⟨by rw [he]; simp, by rw [hw]; exact xE _ _⟩
   |some a2 =>
    obtain ⟨s2, _, _⟩ := R2.2 a2 rfl om; have e1 : a1 = ⟨a1.block, a1.off, none⟩ := by cases a1; simp only at s1; subst s1; rfl
    have e2 : a2 = ⟨a2.block, a2.off, none⟩ := by cases a2; simp only at s2; subst s2; rfl
    rw [e1] at R1 ⊢; rw [e2] at R2 ⊢; have hcon := Any.slices_Equal_int Tryz.equalI a1.block a1.off a.length c1 a2.block a2.off b.length c2 a b w zn zn om om (slr_ints R1) (slr_ints R2); change Calls prog 121 _ _ _ at hcon; refine hcon.mono ?_; rintro e w' ⟨rfl, q, rfl⟩; refine ⟨?_, below_drewN zb q⟩; rw [xK, xK]
    congr 1; congr 1
    rw [rV]; simp
 ·have hcon := Any.slices_Equal_int_lens Tryz.equalI p1 p2 a.length c1 b.length c2 w hl
  change Calls prog 121 _ _ _ at hcon; refine hcon.mono ?_; rintro e w' ⟨rfl, rfl⟩; exact ⟨by rw [zM (fun h => hl (by rw [h]))], xE _ _⟩
theorem qH : (prog.info? 29).map (·.size) = some 6 := kf
theorem lF (a c d : Int) (p1 p2 : Option Addr) (n1 c1 n2 c2 : Nat) (b : Bool) : (#[Value.int .i64 a, .slice p1 n1 c1, .int .i64 c, .int .i64 d, .slice p2 n2 c2, .bool b] : Array Value).all (·.oneCell') = true := by simp [Value.oneCell']
theorem uV (w : World) (g : Nat) (cs : Array Value) : w.grownBy (w.setRow g cs) (some g) := by
 refine ⟨rfl, rfl, rfl, ?_, fun k hk hne => setRow_other w g k cs (fun e => hne (by rw [e]))⟩
 show w.heap.size <= (w.heap.modify g _).size
 rw [Array.size_modify]; exact yZ _
theorem qX {B : Nat} {w w' : World} (h : Below B w w') {g : Nat} (hg : B <= g) (cs : Array Value) : Below B w (w'.setRow g cs) :=
 h.trans ⟨rfl, rfl, rfl, (uV w' g cs).size, fun k hk => setRow_other w' g k cs om⟩
structure wP (w : World) (h : Hp.Hop) (l r : Value) : Prop where
 n1 : h.labels.length <= 1073741824
 n2 : h.repair.length <= 1073741824
 sl : SlR w 1 encI l h.labels
 sr : SlR w 1 encI r h.repair
theorem wP.below {w w' : World} {h : Hp.Hop} {l r : Value} (H : wP w h l r) {B : Nat} (hb : Below B w w') (hB : w.heap.size <= B) : wP w' h l r := ⟨H.n1, H.n2, H.sl.below hb hB, H.sr.below hb hB⟩
theorem eq_dec {α : Type} [DecidableEq α] (x y : α) : decide (x = y) = (x == y) := rfl
theorem hop_eq (a b : Hp.Hop) : decide (a = b) = (decide (a.op = b.op) && decide (a.port = b.port) && decide (a.backup = b.backup) && decide (a.pipe = b.pipe) && decide (a.labels = b.labels) && decide (a.repair = b.repair)) := by
 obtain ⟨a1, a2, a3, a4, a5, a6⟩ := a; obtain ⟨b1, b2, b3, b4, b5, b6⟩ := b; rw [rV]; simp only [xP, xO, Hp.Hop.mk.injEq]
 constructor
 ·rintro ⟨h1, h2, h3, h4, h5, h6⟩; exact ⟨⟨⟨⟨⟨h1, h3⟩, h4⟩, h6⟩, h2⟩, h5⟩
 ·rintro ⟨⟨⟨⟨⟨h1, h3⟩, h4⟩, h6⟩, h2⟩, h5⟩; exact ⟨h1, h2, h3, h4, h5, h6⟩
theorem hop_Same (a b : Hp.Hop) (l1 r1 l2 r2 : Value) (w : World) (A : wP w a l1 r1) (B : wP w b l2 r2) :
  zCB 73 #[.agg (hopA a l1 r1), .agg (hopA b l2 r2)] w (.bool (decide (a = b))) := by
 rw [hop_eq]; have H1 : Hid (∀ W, zW w W -> zCB 121 #[l1, l2] W (.bool (decide (a.labels = b.labels)))) := qh fun W hW => equalI_any _ _ A.n1 B.n1 l1 l2 W (A.sl.below hW zn) (B.sl.below hW zn); have H2 : Hid (∀ W, zW w W -> zCB 121 #[r1, r2] W (.bool (decide (a.repair = b.repair)))) := qh fun W hW => equalI_any _ _ A.n2 B.n2 r1 r2 W (A.sr.below hW zn) (B.sr.below hW zn); obtain ⟨-, -, ⟨p1, c1, rfl, -, -, -⟩, ⟨p2, c2, rfl, -, -, -⟩⟩ := A; obtain ⟨-, -, ⟨p3, c3, rfl, -, -, -⟩, ⟨p4, c4, rfl, -, -, -⟩⟩ := B; obtain ⟨o1, L1, q1, k1, R1, s1⟩ := a; obtain ⟨o2, L2, q2, k2, R2, s2⟩ := b; unfold hopA; simp only at *; have hb0 : ∀ o o', zW w ((w.alloc o).alloc o') := fun o o' => (yD w o).alloc zi _; have HB0 := qh hb0; clear hb0; generalize decide (L1 = L2) = e1 at *; generalize decide (R1 = R2) = e2 at *; simp only [eq_dec]; generalize h1 : (o1 == o2) = d1; generalize h2 : (q1 == q2) = d2; generalize h3 : (k1 == k2) = d3; generalize h4 : (s1 == s2) = d4
 cases d1; rotate_left
 cases d2; rotate_left
 cases d3; rotate_left
 cases d4; rotate_left
 ·go_enter func73, ntmps73
  go_wp2_with fail
  refine zT (H1.o _ (HB0.o _ _)) fun w1 hb1 => ?_; obtain ⟨hcc, hcf⟩ := aX hb1; have hz1 := hb1.size; have B1 := qh ((HB0.o (.cells #[.int .i64 o1, .slice p1 L1.length c1, .int .i64 q1, .int .i64 k1, .slice p2 R1.length c2, .bool s1] 29) (.cells #[.int .i64 o2, .slice p3 L2.length c3, .int .i64 q2, .int .i64 k2, .slice p4 R2.length c4, .bool s2] 29)).trans (hb1.mono zo))
  cases e1
  ·go_wp2
   go_ret
   exact ⟨rfl, B1.o⟩
  go_wp2_with fail
  refine zT (H2.o _ B1.o) fun w2 hb2 => ?_; have B2 := qh (B1.o.trans (hb2.mono B1.o.size))
  go_wp2
  go_ret
  exact ⟨rfl, B2.o⟩
 all_goals
  go_enter func73, ntmps73
  go_wp2
  go_ret
  exact ⟨rfl, HB0.o _ _⟩
end Go.Proofs.YtdbgeobolongmaaGreatDoor
