/- The document's hops: labels, Check, Same. -/
import Derived.Test.YtilahcnpjbnjiaaDoorHopRef14
import Derived.Deep.QuietTactic
import Derived.BigQuiet
namespace Go.Proofs.YtilahcnpjbnjiaaDoor
set_option linter.unusedVariables false
set_option linter.unusedSimpArgs false
open Go.RowKit Go.Shelf Go.Proofs Go.OctetPlain

set_option maxRecDepth 100000 in
set_option maxHeartbeats 1000000 in
theorem ref_labels (L : List Int) (hL : L.length ≤ 1073741824) (v : Value) (w : World) (hv : SlR w 1 encI v L) :
    Calls Tryd.prog 17 #[v] w fun e w' => e = .returned (.bool (L.all Hp.pushed)) ∧ w' = w := by
  obtain ⟨p, cap, rfl, h1, h2, hR⟩ := hv
  go_enter Tryd.func17, Tryd.ntmps17
  go_wp2_with fail
  go_loop [3] (fun vi => ∃ k : Nat, vi = .int .i64 k ∧ k ≤ L.length ∧ Hid ((L.take k).all Hp.pushed = true)) (fun vi => L.length - (intOf vi).toNat)
  case atStart => exact ⟨0, rfl, Nat.zero_le _, Lib.hid rfl⟩
  case round =>
    obtain ⟨k, rfl, hk, HT⟩ := hrel
    by_cases hlt : k < L.length
    · obtain ⟨b, off, rfl, hc⟩ := rd_int hR hlt
      have hc0 : w.cell? ⟨b, off + k, none⟩ = some (.int .i64 L[k]) := hc 0
      have HTK := Lib.hid (List.take_succ_eq_append_getElem hlt)
      have HM : Hid (L[k] ∈ L) := Lib.hid (List.getElem_mem hlt)
      generalize L[k] = n at *
      have hp : Hp.pushed n = (decide (n = 0) || decide (n = 2) || (decide (16 ≤ n) && decide (n ≤ 1048575))) := rfl
      have HP := Lib.hid hp
      have HY : Hid (Hp.pushed n = true → (L.take (k + 1)).all Hp.pushed = true) := Lib.hid fun h => by
        rw [HTK.out, List.all_append, HT.out]; simpa using h
      have HNo : Hid (Hp.pushed n = false → L.all Hp.pushed = false) := Lib.hid fun h => by
        rw [← Bool.not_eq_true, List.all_eq_true]
        exact fun hh => by rw [hh n HM.out] at h; cases h
      clear hp hc HTK HM
      by_cases c0 : n = 0
      · have e0 : (n != 0) = false := by simpa using c0
        have HY2 := Lib.hid (HY.out (by rw [HP.out, decide_eq_true c0]; rfl))
        subst c0
        go_wp2_with fail
        exact ⟨⟨k + 1, by go_num, by omega, HY2⟩, by simp [intOf]; omega⟩
      have e0 : (n != 0) = true := by simpa using c0
      by_cases c2 : n = 2
      · have HY2 := Lib.hid (HY.out (by rw [HP.out, decide_eq_true c2]; simp))
        subst c2
        go_wp2_with fail
        exact ⟨⟨k + 1, by go_num, by omega, HY2⟩, by simp [intOf]; omega⟩
      have e2 : (n != 2) = true := by simpa using c2
      by_cases c3 : n < 16
      · have HN := Lib.hid (HNo.out (by rw [HP.out, decide_eq_false c0, decide_eq_false c2, decide_eq_false (show ¬ 16 ≤ n by omega)]; rfl))
        have d3 : decide (n < 16) = true := decide_eq_true c3
        clear c0 c2
        go_wp2_with fail
        go_ret
        exact ⟨by rw [HN.out]; first | done | rfl, rfl⟩
      have d3 : decide (n < 16) = false := decide_eq_false c3
      by_cases c4 : 1048575 < n
      · have HN := Lib.hid (HNo.out (by rw [HP.out, decide_eq_false c0, decide_eq_false c2, decide_eq_false (show ¬ n ≤ 1048575 by omega)]; simp))
        have d4 : decide (1048575 < n) = true := decide_eq_true c4
        clear c0 c2
        go_wp2_with fail
        go_ret
        exact ⟨by rw [HN.out]; first | done | rfl, rfl⟩
      have d4 : decide (1048575 < n) = false := decide_eq_false c4
      have HY2 := Lib.hid (HY.out (by rw [HP.out, decide_eq_true (show 16 ≤ n by omega), decide_eq_true (show n ≤ 1048575 by omega)]; simp))
      clear c0 c2
      go_wp2_with fail
      exact ⟨⟨k + 1, by go_num, by omega, HY2⟩, by simp [intOf]; omega⟩
    · obtain rfl : k = L.length := by omega
      have HE : Hid (L.all Hp.pushed = true) := by have := HT.out; rw [List.take_length] at this; exact Lib.hid this
      go_wp2_with fail
      go_ret
      exact ⟨by rw [HE.out]; first | done | rfl, rfl⟩
set_option maxRecDepth 100000 in
set_option maxHeartbeats 1000000 in
theorem ref_Check_off (op P B : Int) (C : Bool) (l r : Value) (w : World) (h : op < 0 ∨ 3 < op) :
    Calls Tryd.prog 8 #[.agg #[.int .i64 op, l, .int .i64 P, .int .i64 B, r, .bool C]] w (RetChk 54 w) := by
  by_cases h0 : op < 0
  · go_enter Tryd.func8, Tryd.ntmps8
    go_wp2_with fail
    go_ret
    exact ⟨rfl, belowA w _⟩
  · have h3 : 3 < op := by omega
    clear h
    go_enter Tryd.func8, Tryd.ntmps8
    go_wp2_with fail
    go_ret
    exact ⟨rfl, belowA w _⟩
set_option maxRecDepth 100000 in
set_option maxHeartbeats 1000000 in
theorem ref_Check_full (op P B : Int) (C : Bool) (n1 n2 : Nat) (p1 p2 : Option Addr) (c1 c2 : Nat) (w : World) (h0 : 2 ≤ op) (h3 : op ≤ 3) (hn : 0 < n1) :
    Calls Tryd.prog 8 #[.agg #[.int .i64 op, .slice p1 n1 c1, .int .i64 P, .int .i64 B, .slice p2 n2 c2, .bool C]] w (RetChk 54 w) := by
  have hcs : op = 2 ∨ op = 3 := by omega
  rcases hcs with rfl | rfl
  all_goals
    clear h0 h3
    go_enter Tryd.func8, Tryd.ntmps8
    go_wp2_with fail
    go_ret
    exact ⟨rfl, belowA w _⟩
set_option maxRecDepth 100000 in
set_option maxHeartbeats 1000000 in
theorem ref_Check_none (P B : Int) (C : Bool) (n2 : Nat) (p1 p2 : Option Addr) (c1 c2 : Nat) (w : World) :
    Calls Tryd.prog 8 #[.agg #[.int .i64 1, .slice p1 0 c1, .int .i64 P, .int .i64 B, .slice p2 n2 c2, .bool C]] w (RetChk 54 w) := by
  go_enter Tryd.func8, Tryd.ntmps8
  go_wp2_with fail
  go_ret
  exact ⟨rfl, belowA w _⟩
set_option maxRecDepth 100000 in
set_option maxHeartbeats 2000000 in
theorem ref_Check0 (P B : Int) (C a b : Bool) (n1 : Nat) (n2 : Nat) (h1 : n1 ≤ 1073741824) (h2 : n2 ≤ 1073741824) (p1 p2 : Option Addr) (c1 c2 : Nat) (w : World)
    (U1 : ∀ W, Below w.heap.size w W → Calls Tryd.prog 17 #[.slice p1 n1 c1] W fun e w' => e = .returned (.bool a) ∧ w' = W)
    (U2 : ∀ W, Below w.heap.size w W → Calls Tryd.prog 17 #[.slice p2 n2 c2] W fun e w' => e = .returned (.bool b) ∧ w' = W) :
    Calls Tryd.prog 8 #[.agg #[.int .i64 0, .slice p1 n1 c1, .int .i64 P, .int .i64 B, .slice p2 n2 c2, .bool C]] w (RetChk (chk 0 (n1 : Nat) n2 P B a b) w) := by
  have H1 := Lib.hid U1
  have H2 := Lib.hid U2
  have HB := Lib.hid fun o => belowA w o
  clear U1 U2
  by_cases k1 : 16 < n1
  · have hm : decide (16 < (n1 : Int)) = true := decide_eq_true (by omega)
    have HR := Lib.hid (chk_2 (op := 0) (n1 := (n1 : Nat)) (n2 := (n2 : Nat)) (P := P) (B := B) (a := a) (b := b) (by omega) (by omega))
    go_enter Tryd.func8, Tryd.ntmps8
    go_wp2_with fail
    go_ret
    exact ⟨by rw [HR.out]; first | done | rfl, HB.out _⟩
  have hm1 : decide (16 < (n1 : Int)) = false := decide_eq_false (by omega)
  have hm3 : decide (16 < n1) = false := decide_eq_false (by omega)
  by_cases k2 : 16 < n2
  · have hm : decide (16 < (n2 : Int)) = true := decide_eq_true (by omega)
    have HR := Lib.hid (chk_2 (op := 0) (n1 := ((n1 : Nat) : Int)) (n2 := (n2 : Nat)) (P := P) (B := B) (a := a) (b := b) (by omega) (by omega))
    go_enter Tryd.func8, Tryd.ntmps8
    go_wp2_with fail
    go_ret
    exact ⟨by rw [HR.out]; first | done | rfl, HB.out _⟩
  have hm2 : decide (16 < (n2 : Int)) = false := decide_eq_false (by omega)
  have hm4 : decide (16 < n2) = false := decide_eq_false (by omega)
  go_enter Tryd.func8, Tryd.ntmps8
  go_wp2_with fail
  refine (H1.out _ (HB.out _)).mono ?_
  rintro e w2 ⟨rfl, hw2⟩
  subst hw2
  go_wp2_with fail
  refine (H2.out _ (HB.out _)).mono ?_
  rintro e w3 ⟨rfl, hw3⟩
  subst hw3
  cases a
  · go_wp2_with fail
    go_ret
    exact ⟨by rw [chk_3 (by omega) (by omega) (Or.inl rfl)]; first | done | rfl, HB.out _⟩
  cases b
  · go_wp2_with fail
    go_ret
    exact ⟨by rw [chk_3 (by omega) (by omega) (Or.inr rfl)]; first | done | rfl, HB.out _⟩
  by_cases q1 : P < 0
  · have d1 : decide (P < 0) = true := decide_eq_true q1
    go_wp2_with fail
    go_ret
    exact ⟨by rw [chk_4 (by omega) (by omega) (by omega)]; first | done | rfl, HB.out _⟩
  have d1 : decide (P < 0) = false := decide_eq_false q1
  by_cases q2 : 63 < P
  · have d2 : decide (63 < P) = true := decide_eq_true q2
    go_wp2_with fail
    go_ret
    exact ⟨by rw [chk_4 (by omega) (by omega) (by omega)]; first | done | rfl, HB.out _⟩
  have d2 : decide (63 < P) = false := decide_eq_false q2
  by_cases q4 : 63 < B
  · have d4 : decide (63 < B) = true := decide_eq_true q4
    go_wp2_with fail
    go_ret
    exact ⟨by rw [chk_4 (by omega) (by omega) (by omega)]; first | done | rfl, HB.out _⟩
  have d4 : decide (63 < B) = false := decide_eq_false q4
  by_cases q6 : B < -1
  · have d6 : decide (B < -1) = true := decide_eq_true q6
    go_wp2_with fail
    go_ret
    exact ⟨by rw [chk_5 (by omega) (by omega) (by omega) (by omega)]; first | done | rfl, HB.out _⟩
  have d6 : decide (B < -1) = false := decide_eq_false q6
  by_cases q7 : B = -1
  · subst q7
    by_cases q8 : 0 < n2
    · have d8 : decide (0 < n2) = true := decide_eq_true q8
      go_wp2_with fail
      go_ret
      exact ⟨by rw [chk_5 (by omega) (by omega) (by omega) (by omega)]; first | done | rfl, HB.out _⟩
    · obtain rfl : n2 = 0 := by omega
      have d9 : ((-1 : Int) == P) = false := by simp; omega
      go_wp2_with fail
      go_ret
      exact ⟨by rw [chk_6 (by omega) (by omega) (by omega) (by omega)]; first | done | rfl, HB.out _⟩
  have d7 : (B == -1) = false := by simpa using q7
  by_cases q9 : B = P
  · subst q9
    go_wp2_with fail
    go_ret
    exact ⟨by rw [chk_5 (by omega) (by omega) (by omega) (by omega)]; first | done | rfl, HB.out _⟩
  have d9 : (B == P) = false := by simpa using q9
  go_wp2_with fail
  go_ret
  exact ⟨by rw [chk_6 (by omega) (by omega) (by omega) (by omega)]; first | done | rfl, HB.out _⟩
set_option maxRecDepth 100000 in
set_option maxHeartbeats 2000000 in
theorem ref_Check1 (P B : Int) (C a b : Bool) (n1 : Nat) (n2 : Nat) (hn : 0 < n1) (h1 : n1 ≤ 1073741824) (h2 : n2 ≤ 1073741824) (p1 p2 : Option Addr) (c1 c2 : Nat) (w : World)
    (U1 : ∀ W, Below w.heap.size w W → Calls Tryd.prog 17 #[.slice p1 n1 c1] W fun e w' => e = .returned (.bool a) ∧ w' = W)
    (U2 : ∀ W, Below w.heap.size w W → Calls Tryd.prog 17 #[.slice p2 n2 c2] W fun e w' => e = .returned (.bool b) ∧ w' = W) :
    Calls Tryd.prog 8 #[.agg #[.int .i64 1, .slice p1 n1 c1, .int .i64 P, .int .i64 B, .slice p2 n2 c2, .bool C]] w (RetChk (chk 1 (n1 : Nat) n2 P B a b) w) := by
  have H1 := Lib.hid U1
  have H2 := Lib.hid U2
  have HB := Lib.hid fun o => belowA w o
  clear U1 U2
  have hn0 : (n1 == 0) = false := by simp; omega
  have hn1 : ((n1 : Int) == 0) = false := by simp; omega
  by_cases k1 : 16 < n1
  · have hm : decide (16 < (n1 : Int)) = true := decide_eq_true (by omega)
    have HR := Lib.hid (chk_2 (op := 1) (n1 := (n1 : Nat)) (n2 := (n2 : Nat)) (P := P) (B := B) (a := a) (b := b) (by omega) (by omega))
    go_enter Tryd.func8, Tryd.ntmps8
    go_wp2_with fail
    go_ret
    exact ⟨by rw [HR.out]; first | done | rfl, HB.out _⟩
  have hm1 : decide (16 < (n1 : Int)) = false := decide_eq_false (by omega)
  have hm3 : decide (16 < n1) = false := decide_eq_false (by omega)
  by_cases k2 : 16 < n2
  · have hm : decide (16 < (n2 : Int)) = true := decide_eq_true (by omega)
    have HR := Lib.hid (chk_2 (op := 1) (n1 := ((n1 : Nat) : Int)) (n2 := (n2 : Nat)) (P := P) (B := B) (a := a) (b := b) (by omega) (by omega))
    go_enter Tryd.func8, Tryd.ntmps8
    go_wp2_with fail
    go_ret
    exact ⟨by rw [HR.out]; first | done | rfl, HB.out _⟩
  have hm2 : decide (16 < (n2 : Int)) = false := decide_eq_false (by omega)
  have hm4 : decide (16 < n2) = false := decide_eq_false (by omega)
  go_enter Tryd.func8, Tryd.ntmps8
  go_wp2_with fail
  refine (H1.out _ (HB.out _)).mono ?_
  rintro e w2 ⟨rfl, hw2⟩
  subst hw2
  go_wp2_with fail
  refine (H2.out _ (HB.out _)).mono ?_
  rintro e w3 ⟨rfl, hw3⟩
  subst hw3
  cases a
  · go_wp2_with fail
    go_ret
    exact ⟨by rw [chk_3 (by omega) (by omega) (Or.inl rfl)]; first | done | rfl, HB.out _⟩
  cases b
  · go_wp2_with fail
    go_ret
    exact ⟨by rw [chk_3 (by omega) (by omega) (Or.inr rfl)]; first | done | rfl, HB.out _⟩
  by_cases q1 : P < 0
  · have d1 : decide (P < 0) = true := decide_eq_true q1
    go_wp2_with fail
    go_ret
    exact ⟨by rw [chk_4 (by omega) (by omega) (by omega)]; first | done | rfl, HB.out _⟩
  have d1 : decide (P < 0) = false := decide_eq_false q1
  by_cases q2 : 63 < P
  · have d2 : decide (63 < P) = true := decide_eq_true q2
    go_wp2_with fail
    go_ret
    exact ⟨by rw [chk_4 (by omega) (by omega) (by omega)]; first | done | rfl, HB.out _⟩
  have d2 : decide (63 < P) = false := decide_eq_false q2
  by_cases q4 : 63 < B
  · have d4 : decide (63 < B) = true := decide_eq_true q4
    go_wp2_with fail
    go_ret
    exact ⟨by rw [chk_4 (by omega) (by omega) (by omega)]; first | done | rfl, HB.out _⟩
  have d4 : decide (63 < B) = false := decide_eq_false q4
  by_cases q6 : B < -1
  · have d6 : decide (B < -1) = true := decide_eq_true q6
    go_wp2_with fail
    go_ret
    exact ⟨by rw [chk_5 (by omega) (by omega) (by omega) (by omega)]; first | done | rfl, HB.out _⟩
  have d6 : decide (B < -1) = false := decide_eq_false q6
  by_cases q7 : B = -1
  · subst q7
    by_cases q8 : 0 < n2
    · have d8 : decide (0 < n2) = true := decide_eq_true q8
      go_wp2_with fail
      go_ret
      exact ⟨by rw [chk_5 (by omega) (by omega) (by omega) (by omega)]; first | done | rfl, HB.out _⟩
    · obtain rfl : n2 = 0 := by omega
      have d9 : ((-1 : Int) == P) = false := by simp; omega
      go_wp2_with fail
      go_ret
      exact ⟨by rw [chk_6 (by omega) (by omega) (by omega) (by omega)]; first | done | rfl, HB.out _⟩
  have d7 : (B == -1) = false := by simpa using q7
  by_cases q9 : B = P
  · subst q9
    go_wp2_with fail
    go_ret
    exact ⟨by rw [chk_5 (by omega) (by omega) (by omega) (by omega)]; first | done | rfl, HB.out _⟩
  have d9 : (B == P) = false := by simpa using q9
  go_wp2_with fail
  go_ret
  exact ⟨by rw [chk_6 (by omega) (by omega) (by omega) (by omega)]; first | done | rfl, HB.out _⟩
set_option maxRecDepth 100000 in
set_option maxHeartbeats 2000000 in
theorem ref_Check2 (P B : Int) (C a b : Bool) (n2 : Nat) (h2 : n2 ≤ 1073741824) (p1 p2 : Option Addr) (c1 c2 : Nat) (w : World)
    (U1 : ∀ W, Below w.heap.size w W → Calls Tryd.prog 17 #[.slice p1 0 c1] W fun e w' => e = .returned (.bool a) ∧ w' = W)
    (U2 : ∀ W, Below w.heap.size w W → Calls Tryd.prog 17 #[.slice p2 n2 c2] W fun e w' => e = .returned (.bool b) ∧ w' = W) :
    Calls Tryd.prog 8 #[.agg #[.int .i64 2, .slice p1 0 c1, .int .i64 P, .int .i64 B, .slice p2 n2 c2, .bool C]] w (RetChk (chk 2 0 n2 P B a b) w) := by
  have H1 := Lib.hid U1
  have H2 := Lib.hid U2
  have HB := Lib.hid fun o => belowA w o
  clear U1 U2
  by_cases k2 : 16 < n2
  · have hm : decide (16 < (n2 : Int)) = true := decide_eq_true (by omega)
    have HR := Lib.hid (chk_2 (op := 2) (n1 := (0 : Int)) (n2 := (n2 : Nat)) (P := P) (B := B) (a := a) (b := b) (by omega) (by omega))
    go_enter Tryd.func8, Tryd.ntmps8
    go_wp2_with fail
    go_ret
    exact ⟨by rw [HR.out]; first | done | rfl, HB.out _⟩
  have hm2 : decide (16 < (n2 : Int)) = false := decide_eq_false (by omega)
  have hm4 : decide (16 < n2) = false := decide_eq_false (by omega)
  go_enter Tryd.func8, Tryd.ntmps8
  go_wp2_with fail
  refine (H1.out _ (HB.out _)).mono ?_
  rintro e w2 ⟨rfl, hw2⟩
  subst hw2
  go_wp2_with fail
  refine (H2.out _ (HB.out _)).mono ?_
  rintro e w3 ⟨rfl, hw3⟩
  subst hw3
  cases a
  · go_wp2_with fail
    go_ret
    exact ⟨by rw [chk_3 (by omega) (by omega) (Or.inl rfl)]; first | done | rfl, HB.out _⟩
  cases b
  · go_wp2_with fail
    go_ret
    exact ⟨by rw [chk_3 (by omega) (by omega) (Or.inr rfl)]; first | done | rfl, HB.out _⟩
  by_cases q1 : P < 0
  · have d1 : decide (P < 0) = true := decide_eq_true q1
    go_wp2_with fail
    go_ret
    exact ⟨by rw [chk_4 (by omega) (by omega) (by omega)]; first | done | rfl, HB.out _⟩
  have d1 : decide (P < 0) = false := decide_eq_false q1
  by_cases q2 : 63 < P
  · have d2 : decide (63 < P) = true := decide_eq_true q2
    go_wp2_with fail
    go_ret
    exact ⟨by rw [chk_4 (by omega) (by omega) (by omega)]; first | done | rfl, HB.out _⟩
  have d2 : decide (63 < P) = false := decide_eq_false q2
  by_cases q4 : 63 < B
  · have d4 : decide (63 < B) = true := decide_eq_true q4
    go_wp2_with fail
    go_ret
    exact ⟨by rw [chk_4 (by omega) (by omega) (by omega)]; first | done | rfl, HB.out _⟩
  have d4 : decide (63 < B) = false := decide_eq_false q4
  by_cases q6 : B < -1
  · have d6 : decide (B < -1) = true := decide_eq_true q6
    go_wp2_with fail
    go_ret
    exact ⟨by rw [chk_5 (by omega) (by omega) (by omega) (by omega)]; first | done | rfl, HB.out _⟩
  have d6 : decide (B < -1) = false := decide_eq_false q6
  by_cases q7 : B = -1
  · subst q7
    by_cases q8 : 0 < n2
    · have d8 : decide (0 < n2) = true := decide_eq_true q8
      go_wp2_with fail
      go_ret
      exact ⟨by rw [chk_5 (by omega) (by omega) (by omega) (by omega)]; first | done | rfl, HB.out _⟩
    · obtain rfl : n2 = 0 := by omega
      have d9 : ((-1 : Int) == P) = false := by simp; omega
      go_wp2_with fail
      go_ret
      exact ⟨by rw [chk_6 (by omega) (by omega) (by omega) (by omega)]; first | done | rfl, HB.out _⟩
  have d7 : (B == -1) = false := by simpa using q7
  by_cases q9 : B = P
  · subst q9
    go_wp2_with fail
    go_ret
    exact ⟨by rw [chk_5 (by omega) (by omega) (by omega) (by omega)]; first | done | rfl, HB.out _⟩
  have d9 : (B == P) = false := by simpa using q9
  go_wp2_with fail
  go_ret
  exact ⟨by rw [chk_6 (by omega) (by omega) (by omega) (by omega)]; first | done | rfl, HB.out _⟩
set_option maxRecDepth 100000 in
set_option maxHeartbeats 2000000 in
theorem ref_Check3 (P B : Int) (C a b : Bool) (n2 : Nat) (h2 : n2 ≤ 1073741824) (p1 p2 : Option Addr) (c1 c2 : Nat) (w : World)
    (U1 : ∀ W, Below w.heap.size w W → Calls Tryd.prog 17 #[.slice p1 0 c1] W fun e w' => e = .returned (.bool a) ∧ w' = W)
    (U2 : ∀ W, Below w.heap.size w W → Calls Tryd.prog 17 #[.slice p2 n2 c2] W fun e w' => e = .returned (.bool b) ∧ w' = W) :
    Calls Tryd.prog 8 #[.agg #[.int .i64 3, .slice p1 0 c1, .int .i64 P, .int .i64 B, .slice p2 n2 c2, .bool C]] w (RetChk (chk 3 0 n2 P B a b) w) := by
  have H1 := Lib.hid U1
  have H2 := Lib.hid U2
  have HB := Lib.hid fun o => belowA w o
  clear U1 U2
  by_cases k2 : 16 < n2
  · have hm : decide (16 < (n2 : Int)) = true := decide_eq_true (by omega)
    have HR := Lib.hid (chk_2 (op := 3) (n1 := (0 : Int)) (n2 := (n2 : Nat)) (P := P) (B := B) (a := a) (b := b) (by omega) (by omega))
    go_enter Tryd.func8, Tryd.ntmps8
    go_wp2_with fail
    go_ret
    exact ⟨by rw [HR.out]; first | done | rfl, HB.out _⟩
  have hm2 : decide (16 < (n2 : Int)) = false := decide_eq_false (by omega)
  have hm4 : decide (16 < n2) = false := decide_eq_false (by omega)
  go_enter Tryd.func8, Tryd.ntmps8
  go_wp2_with fail
  refine (H1.out _ (HB.out _)).mono ?_
  rintro e w2 ⟨rfl, hw2⟩
  subst hw2
  go_wp2_with fail
  refine (H2.out _ (HB.out _)).mono ?_
  rintro e w3 ⟨rfl, hw3⟩
  subst hw3
  cases a
  · go_wp2_with fail
    go_ret
    exact ⟨by rw [chk_3 (by omega) (by omega) (Or.inl rfl)]; first | done | rfl, HB.out _⟩
  cases b
  · go_wp2_with fail
    go_ret
    exact ⟨by rw [chk_3 (by omega) (by omega) (Or.inr rfl)]; first | done | rfl, HB.out _⟩
  by_cases q1 : P < 0
  · have d1 : decide (P < 0) = true := decide_eq_true q1
    go_wp2_with fail
    go_ret
    exact ⟨by rw [chk_4 (by omega) (by omega) (by omega)]; first | done | rfl, HB.out _⟩
  have d1 : decide (P < 0) = false := decide_eq_false q1
  by_cases q2 : 63 < P
  · have d2 : decide (63 < P) = true := decide_eq_true q2
    go_wp2_with fail
    go_ret
    exact ⟨by rw [chk_4 (by omega) (by omega) (by omega)]; first | done | rfl, HB.out _⟩
  have d2 : decide (63 < P) = false := decide_eq_false q2
  by_cases q3 : P = 0
  rotate_left
  · have d3 : (P != 0) = true := by simpa using q3
    go_wp2_with fail
    go_ret
    exact ⟨by rw [chk_4 (by omega) (by omega) (by omega)]; first | done | rfl, HB.out _⟩
  subst q3
  by_cases q4 : 63 < B
  · have d4 : decide (63 < B) = true := decide_eq_true q4
    go_wp2_with fail
    go_ret
    exact ⟨by rw [chk_4 (by omega) (by omega) (by omega)]; first | done | rfl, HB.out _⟩
  have d4 : decide (63 < B) = false := decide_eq_false q4
  by_cases q5 : 0 ≤ B
  · have d5 : decide (0 ≤ B) = true := decide_eq_true q5
    go_wp2_with fail
    go_ret
    exact ⟨by rw [chk_4 (by omega) (by omega) (by omega)]; first | done | rfl, HB.out _⟩
  have d5 : decide (0 ≤ B) = false := decide_eq_false q5
  by_cases q6 : B < -1
  · have d6 : decide (B < -1) = true := decide_eq_true q6
    go_wp2_with fail
    go_ret
    exact ⟨by rw [chk_5 (by omega) (by omega) (by omega) (by omega)]; first | done | rfl, HB.out _⟩
  have d6 : decide (B < -1) = false := decide_eq_false q6
  by_cases q7 : B = -1
  · subst q7
    by_cases q8 : 0 < n2
    · have d8 : decide (0 < n2) = true := decide_eq_true q8
      go_wp2_with fail
      go_ret
      exact ⟨by rw [chk_5 (by omega) (by omega) (by omega) (by omega)]; first | done | rfl, HB.out _⟩
    · obtain rfl : n2 = 0 := by omega
      go_wp2_with fail
      go_ret
      exact ⟨by rw [chk_6 (by omega) (by omega) (by omega) (by omega)]; first | done | rfl, HB.out _⟩
  have d7 : (B == -1) = false := by simpa using q7
  exfalso; omega
/-- may a hop be, the document's -/
theorem ref_Check (h : Hp.Hop) (h1 : h.labels.length ≤ 1073741824) (h2 : h.repair.length ≤ 1073741824) (l r : Value) (w : World) (hl : SlR w 1 encI l h.labels) (hr : SlR w 1 encI r h.repair) :
    Calls Tryd.prog 8 #[.agg (hopA h l r)] w fun e w' => e = .returned (.int .i64 (Hp.checkR h)) ∧ Below w.heap.size w w' := by
  have U1 : ∀ W, Below w.heap.size w W → Calls Tryd.prog 17 #[l] W fun e w' => e = .returned (.bool (h.labels.all Hp.pushed)) ∧ w' = W := fun W hW => ref_labels _ h1 l W (hl.below hW (Nat.le_refl _))
  have U2 : ∀ W, Below w.heap.size w W → Calls Tryd.prog 17 #[r] W fun e w' => e = .returned (.bool (h.repair.all Hp.pushed)) ∧ w' = W := fun W hW => ref_labels _ h2 r W (hr.below hW (Nat.le_refl _))
  rw [chk_eq]
  obtain ⟨p1, c1, rfl, -, -, -⟩ := hl
  obtain ⟨p2, c2, rfl, -, -, -⟩ := hr
  obtain ⟨op, L, P, B, R, C⟩ := h
  unfold hopA
  simp only at *
  generalize L.all Hp.pushed = a at *
  generalize R.all Hp.pushed = b at *
  change Calls _ _ _ _ (RetChk _ w)
  by_cases ho : op < 0 ∨ 3 < op
  · rw [chk_1 (by omega)]
    exact ref_Check_off op P B C _ _ w ho
  by_cases hf : 2 ≤ op ∧ 0 < L.length
  · rw [chk_1 (by omega)]
    exact ref_Check_full op P B C _ _ p1 p2 c1 c2 w hf.1 (by omega) hf.2
  by_cases hn : op = 1 ∧ L.length = 0
  · rw [chk_1 (by omega), hn.1, hn.2]
    exact ref_Check_none P B C _ p1 p2 c1 c2 w
  have hcs : op = 0 ∨ op = 1 ∨ op = 2 ∨ op = 3 := by omega
  rcases hcs with rfl | rfl | rfl | rfl
  · exact ref_Check0 P B C a b _ _ h1 h2 p1 p2 c1 c2 w U1 U2
  · exact ref_Check1 P B C a b _ _ (by omega) h1 h2 p1 p2 c1 c2 w U1 U2
  · have h0 : L.length = 0 := by omega
    rw [h0] at U1 ⊢
    exact ref_Check2 P B C a b _ h2 p1 p2 c1 c2 w U1 U2
  · have h0 : L.length = 0 := by omega
    rw [h0] at U1 ⊢
    exact ref_Check3 P B C a b _ h2 p1 p2 c1 c2 w U1 U2
set_option maxRecDepth 100000 in
set_option maxHeartbeats 1000000 in
theorem ref_Same15 (a b : Hp.Hop) (l1 r1 l2 r2 : Value) (w : World) (A : HopIs w a l1 r1) (B : HopIs w b l2 r2) :
    Calls Tryd.prog 11 #[.agg (hopA a l1 r1), .agg (hopA b l2 r2)] w fun e w' => e = .returned (.bool (decide (a = b))) ∧ Below w.heap.size w w' := by
  have HC : Hid (∀ W, Below w.heap.size w W → Calls Tryd.prog 21 #[.agg (hopA a l1 r1), .agg (hopA b l2 r2)] W fun e w' => e = .returned (.bool (decide (a = b))) ∧ Below W.heap.size W w') := Lib.hid fun W hW => ref_SameHop a b l1 r1 l2 r2 W (A.below hW (Nat.le_refl _)) (B.below hW (Nat.le_refl _))
  obtain ⟨-, -, ⟨p1, c1, rfl, -, -, -⟩, ⟨p2, c2, rfl, -, -, -⟩⟩ := A
  obtain ⟨-, -, ⟨p3, c3, rfl, -, -, -⟩, ⟨p4, c4, rfl, -, -, -⟩⟩ := B
  have HB0 := Lib.hid fun o o' => ((belowA w o).alloc (by simp) o' : Below w.heap.size w ((w.alloc o).alloc o'))
  unfold hopA at *
  go_enter Tryd.func11, Tryd.ntmps11
  go_wp2_with fail
  refine (HC.out _ (HB0.out _ _)).mono ?_
  rintro e w1 ⟨rfl, hb1⟩
  go_wp2_with fail
  go_ret
  exact ⟨rfl, (HB0.out _ _).trans (hb1.mono (by simp; omega))⟩
end Go.Proofs.YtilahcnpjbnjiaaDoor
