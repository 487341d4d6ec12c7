/- Part of the proof: ScriptLines, ScriptParses, ScriptShows. -/
import Derived.Test.YtdbgeobolongmaaGreatDoorSA14
set_option linter.unusedVariables false
set_option linter.unusedSimpArgs false
set_option maxRecDepth 100000
set_option maxHeartbeats 2000000
namespace Go.Proofs.YtdbgeobolongmaaGreatDoor
open Go.RowKit Go.Shelf Go.Proofs Go.OctetPlain Go.Proofs.Tryz
theorem ref_labels (L : List Int) (hL : L.length <= 1073741824) (v : Value) (w : World) (hv : SlR w 1 encI v L) :
  zCQ 122 #[v] w (.bool (L.all Hp.pushed)) := by
 obtain ⟨p, cap, rfl, h1, h2, hR⟩ := hv
 go_enter func122, ntmps122
 go_wp2_with fail
 go_loop [3] (fun vi => ∃ k : Nat, vi = .int .i64 k /\ k <= L.length /\ Hid ((L.take k).all Hp.pushed = true)) (fun vi => L.length - (intOf vi).toNat)
 case atStart => exact ⟨0, rfl, yQ _, qh rfl⟩
 case round =>
  obtain ⟨k, rfl, hk, HT⟩ := hrel
  by_cases hlt : k < L.length
  ·obtain ⟨b, off, rfl, hc⟩ := rd_int hR hlt
   have hc0 : w.cell? ⟨b, off + k, none⟩ = some (.int .i64 L[k]) := hc 0; have HTK := qh (yA hlt); have HM : Hid (L[k] ∈ L) := qh (yU hlt); generalize L[k] = n at *; have hp : Hp.pushed n = (decide (n = 0) || decide (n = 2) || (decide (16 <= n) && decide (n <= 1048575))) := rfl; have HP := qh hp
   have HY : Hid (Hp.pushed n = true -> (L.take (k + 1)).all Hp.pushed = true) := qh fun h => by
    rw [HTK.o, List.all_append, HT.o]; simpa using h
   have HNo : Hid (Hp.pushed n = false -> L.all Hp.pushed = false) := qh fun h => by
    rw [← Bool.not_eq_true, jE]; exact fun hh => by rw [hh n HM.o] at h; cases h
   clear hp hc HTK HM
   by_cases c0 : n = 0
   ·have e0 : (n != 0) = false := by simpa using c0
    have HY2 := qh (HY.o (by rw [HP.o, zV c0]; rfl)); subst c0
    go_wp2
    exact ⟨⟨k + 1, by go_num, om, HY2⟩, by simp [intOf]; omega⟩
   have e0 : (n != 0) = true := by simpa using c0
   by_cases c2 : n = 2
   ·have HY2 := qh (HY.o (by rw [HP.o, zV c2]; simp))
    subst c2
    go_wp2
    exact ⟨⟨k + 1, by go_num, om, HY2⟩, by simp [intOf]; omega⟩
   have e2 : (n != 2) = true := by simpa using c2
   by_cases c3 : n < 16
   ·have HN := qh (HNo.o (by rw [HP.o, zM c0, zM c2, zM (show ¬ 16 <= n from om)]; rfl))
    have d3 : decide (n < 16) = true := zV c3; clear c0 c2
    go_wp2
    go_ret
    exact ⟨by rw [HN.o]; first | done | rfl, rfl⟩
   have d3 : decide (n < 16) = false := zM c3
   by_cases c4 : 1048575 < n
   ·have HN := qh (HNo.o (by rw [HP.o, zM c0, zM c2, zM (show ¬ n <= 1048575 from om)]; simp))
    have d4 : decide (1048575 < n) = true := zV c4; clear c0 c2
    go_wp2
    go_ret
    exact ⟨by rw [HN.o]; first | done | rfl, rfl⟩
   have d4 : decide (1048575 < n) = false := zM c4; have HY2 := qh (HY.o (by rw [HP.o, zV (show 16 <= n from om), zV (show n <= 1048575 from om)]; simp)); clear c0 c2
   go_wp2
   exact ⟨⟨k + 1, by go_num, om, HY2⟩, by simp [intOf]; omega⟩
  ·obtain rfl : k = L.length := om
   have HE : Hid (L.all Hp.pushed = true) := by have := HT.o; rw [xK] at this; exact qh this
   go_wp2
   go_ret
   exact ⟨by rw [HE.o]; first | done | rfl, rfl⟩
theorem ref_Check_off (op P B : Int) (C : Bool) (l r : Value) (w : World) (h : op < 0 ∨ 3 < op) :
  Calls prog 77 #[.agg #[.int .i64 op, l, .int .i64 P, .int .i64 B, r, .bool C]] w (sM 54 w) := by
 by_cases h0 : op < 0
 ·go_enter func77, ntmps77
  go_wp2
  go_ret
  exact ⟨rfl, yD w _⟩
 ·have h3 : 3 < op := om
  clear h
  go_enter func77, ntmps77
  go_wp2
  go_ret
  exact ⟨rfl, yD w _⟩
theorem ref_Check_full (op P B : Int) (C : Bool) (n1 n2 : Nat) (p1 p2 : Option Addr) (c1 c2 : Nat) (w : World) (h0 : 2 <= op) (h3 : op <= 3) (hn : 0 < n1) :
  Calls prog 77 #[.agg #[.int .i64 op, .slice p1 n1 c1, .int .i64 P, .int .i64 B, .slice p2 n2 c2, .bool C]] w (sM 54 w) := by
 have hcs : op = 2 ∨ op = 3 := om
 rcases hcs with rfl | rfl
 all_goals
  clear h0 h3
  go_enter func77, ntmps77
  go_wp2
  go_ret
  exact ⟨rfl, yD w _⟩
theorem ref_Check_none (P B : Int) (C : Bool) (n2 : Nat) (p1 p2 : Option Addr) (c1 c2 : Nat) (w : World) :
  Calls prog 77 #[.agg #[.int .i64 1, .slice p1 0 c1, .int .i64 P, .int .i64 B, .slice p2 n2 c2, .bool C]] w (sM 54 w) := by
 go_enter func77, ntmps77
 go_wp2
 go_ret
 exact ⟨rfl, yD w _⟩
theorem zFm (op P B : Int) (C a b : Bool) (n1 n2 : Nat) (hop : op = 0 ∨ op = 1 /\ 0 < n1) (h1 : n1 <= 1073741824) (h2 : n2 <= 1073741824) (p1 p2 : Option Addr) (c1 c2 : Nat) (w : World)
  (U1 : ∀ W, zW w W -> zCQ 122 #[.slice p1 n1 c1] W (.bool a))
  (U2 : ∀ W, zW w W -> zCQ 122 #[.slice p2 n2 c2] W (.bool b)) :
  Calls prog 77 #[.agg #[.int .i64 op, .slice p1 n1 c1, .int .i64 P, .int .i64 B, .slice p2 n2 c2, .bool C]] w (sM (chk op (n1 : Nat) n2 P B a b) w) := by
 have H1 := qh U1; have H2 := qh U2; have HB := qh fun o => yD w o; clear U1 U2
 rcases hop with rfl | ⟨rfl, hn⟩
 all_goals
  try have hn0 : (n1 == 0) = false := zo
  try have hn1 : ((n1 : Int) == 0) = false := zo
  by_cases k1 : 16 < n1
  ·first
   | exfalso; omega
   |skip
    have hm : decide (16 < (n1 : Int)) = true := zV om
    go_enter func77, ntmps77
    go_wp2
    go_ret
    exact ⟨by rw [zFz om om]; first | done | rfl, HB.o _⟩
  have hm1 : decide (16 < (n1 : Int)) = false := zM om; have hm3 : decide (16 < n1) = false := zM om
  by_cases k2 : 16 < n2
  ·have hm : decide (16 < (n2 : Int)) = true := zV om
   go_enter func77, ntmps77
   go_wp2
   go_ret
   exact ⟨by rw [zFz om om]; first | done | rfl, HB.o _⟩
  have hm2 : decide (16 < (n2 : Int)) = false := zM om; have hm4 : decide (16 < n2) = false := zM om
  go_enter func77, ntmps77
  go_wp2_with fail
  refine zU (H1.o _ (HB.o _)) ?_; go_wp2_with fail
  refine zU (H2.o _ (HB.o _)) ?_
  cases a
  ·go_wp2
   go_ret
   exact ⟨by rw [nE om om (Or.inl rfl)]; first | done | rfl, HB.o _⟩
  cases b
  ·go_wp2
   go_ret
   exact ⟨by rw [nE om om (Or.inr rfl)]; first | done | rfl, HB.o _⟩
  by_cases q1 : P < 0
  ·have d1 : decide (P < 0) = true := zV q1
   go_wp2
   go_ret
   exact ⟨by rw [bY om om om]; first | done | rfl, HB.o _⟩
  have d1 : decide (P < 0) = false := zM q1
  by_cases q2 : 63 < P
  ·have d2 : decide (63 < P) = true := zV q2
   go_wp2
   go_ret
   exact ⟨by rw [bY om om om]; first | done | rfl, HB.o _⟩
  have d2 : decide (63 < P) = false := zM q2
  by_cases q4 : 63 < B
  ·have d4 : decide (63 < B) = true := zV q4
   go_wp2
   go_ret
   exact ⟨by rw [bY om om om]; first | done | rfl, HB.o _⟩
  have d4 : decide (63 < B) = false := zM q4
  by_cases q6 : B < -1
  ·have d6 : decide (B < -1) = true := zV q6
   go_wp2
   go_ret
   exact ⟨by rw [rR om om om om]; first | done | rfl, HB.o _⟩
  have d6 : decide (B < -1) = false := zM q6
  by_cases q7 : B = -1
  ·subst q7
   by_cases q8 : 0 < n2
   ·have d8 : decide (0 < n2) = true := zV q8
    go_wp2
    go_ret
    exact ⟨by rw [rR om om om om]; first | done | rfl, HB.o _⟩
   ·obtain rfl : n2 = 0 := om
    have d9 : ((-1 : Int) == P) = false := zo
    go_wp2
    go_ret
    exact ⟨by rw [oQ om om om om]; first | done | rfl, HB.o _⟩
  have d7 : (B == -1) = false := by simpa using q7
  by_cases q9 : B = P
  ·subst q9
   go_wp2
   go_ret
   exact ⟨by rw [rR om om om om]; first | done | rfl, HB.o _⟩
  have d9 : (B == P) = false := by simpa using q9
  go_wp2
  go_ret
  exact ⟨by rw [oQ om om om om]; first | done | rfl, HB.o _⟩
theorem ref_Check2 (P B : Int) (C a b : Bool) (n2 : Nat) (h2 : n2 <= 1073741824) (p1 p2 : Option Addr) (c1 c2 : Nat) (w : World)
  (U1 : ∀ W, zW w W -> zCQ 122 #[.slice p1 0 c1] W (.bool a))
  (U2 : ∀ W, zW w W -> zCQ 122 #[.slice p2 n2 c2] W (.bool b)) :
  Calls prog 77 #[.agg #[.int .i64 2, .slice p1 0 c1, .int .i64 P, .int .i64 B, .slice p2 n2 c2, .bool C]] w (sM (chk 2 0 n2 P B a b) w) := by
 have H1 := qh U1; have H2 := qh U2; have HB := qh fun o => yD w o; clear U1 U2
 by_cases k2 : 16 < n2
 ·have hm : decide (16 < (n2 : Int)) = true := zV om
  go_enter func77, ntmps77
  go_wp2
  go_ret
  exact ⟨by rw [zFz om om]; first | done | rfl, HB.o _⟩
 have hm2 : decide (16 < (n2 : Int)) = false := zM om; have hm4 : decide (16 < n2) = false := zM om
 go_enter func77, ntmps77
 go_wp2_with fail
 refine zU (H1.o _ (HB.o _)) ?_; go_wp2_with fail
 refine zU (H2.o _ (HB.o _)) ?_
 cases a
 ·go_wp2
  go_ret
  exact ⟨by rw [nE om om (Or.inl rfl)]; first | done | rfl, HB.o _⟩
 cases b
 ·go_wp2
  go_ret
  exact ⟨by rw [nE om om (Or.inr rfl)]; first | done | rfl, HB.o _⟩
 by_cases q1 : P < 0
 ·have d1 : decide (P < 0) = true := zV q1
  go_wp2
  go_ret
  exact ⟨by rw [bY om om om]; first | done | rfl, HB.o _⟩
 have d1 : decide (P < 0) = false := zM q1
 by_cases q2 : 63 < P
 ·have d2 : decide (63 < P) = true := zV q2
  go_wp2
  go_ret
  exact ⟨by rw [bY om om om]; first | done | rfl, HB.o _⟩
 have d2 : decide (63 < P) = false := zM q2
 by_cases q4 : 63 < B
 ·have d4 : decide (63 < B) = true := zV q4
  go_wp2
  go_ret
  exact ⟨by rw [bY om om om]; first | done | rfl, HB.o _⟩
 have d4 : decide (63 < B) = false := zM q4
 by_cases q6 : B < -1
 ·have d6 : decide (B < -1) = true := zV q6
  go_wp2
  go_ret
  exact ⟨by rw [rR om om om om]; first | done | rfl, HB.o _⟩
 have d6 : decide (B < -1) = false := zM q6
 by_cases q7 : B = -1
 ·subst q7
  by_cases q8 : 0 < n2
  ·have d8 : decide (0 < n2) = true := zV q8
   go_wp2
   go_ret
   exact ⟨by rw [rR om om om om]; first | done | rfl, HB.o _⟩
  ·obtain rfl : n2 = 0 := om
   have d9 : ((-1 : Int) == P) = false := zo
   go_wp2
   go_ret
   exact ⟨by rw [oQ om om om om]; first | done | rfl, HB.o _⟩
 have d7 : (B == -1) = false := by simpa using q7
 by_cases q9 : B = P
 ·subst q9
  go_wp2
  go_ret
  exact ⟨by rw [rR om om om om]; first | done | rfl, HB.o _⟩
 have d9 : (B == P) = false := by simpa using q9
 go_wp2
 go_ret
 exact ⟨by rw [oQ om om om om]; first | done | rfl, HB.o _⟩
theorem ref_Check3 (P B : Int) (C a b : Bool) (n2 : Nat) (h2 : n2 <= 1073741824) (p1 p2 : Option Addr) (c1 c2 : Nat) (w : World)
  (U1 : ∀ W, zW w W -> zCQ 122 #[.slice p1 0 c1] W (.bool a))
  (U2 : ∀ W, zW w W -> zCQ 122 #[.slice p2 n2 c2] W (.bool b)) :
  Calls prog 77 #[.agg #[.int .i64 3, .slice p1 0 c1, .int .i64 P, .int .i64 B, .slice p2 n2 c2, .bool C]] w (sM (chk 3 0 n2 P B a b) w) := by
 have H1 := qh U1; have H2 := qh U2; have HB := qh fun o => yD w o; clear U1 U2
 by_cases k2 : 16 < n2
 ·have hm : decide (16 < (n2 : Int)) = true := zV om
  go_enter func77, ntmps77
  go_wp2
  go_ret
  exact ⟨by rw [zFz om om]; first | done | rfl, HB.o _⟩
 have hm2 : decide (16 < (n2 : Int)) = false := zM om; have hm4 : decide (16 < n2) = false := zM om
 go_enter func77, ntmps77
 go_wp2_with fail
 refine zU (H1.o _ (HB.o _)) ?_; go_wp2_with fail
 refine zU (H2.o _ (HB.o _)) ?_
 cases a
 ·go_wp2
  go_ret
  exact ⟨by rw [nE om om (Or.inl rfl)]; first | done | rfl, HB.o _⟩
 cases b
 ·go_wp2
  go_ret
  exact ⟨by rw [nE om om (Or.inr rfl)]; first | done | rfl, HB.o _⟩
 by_cases q1 : P < 0
 ·have d1 : decide (P < 0) = true := zV q1
  go_wp2
  go_ret
  exact ⟨by rw [bY om om om]; first | done | rfl, HB.o _⟩
 have d1 : decide (P < 0) = false := zM q1
 by_cases q2 : 63 < P
 ·have d2 : decide (63 < P) = true := zV q2
  go_wp2
  go_ret
  exact ⟨by rw [bY om om om]; first | done | rfl, HB.o _⟩
 have d2 : decide (63 < P) = false := zM q2
 by_cases q3 : P = 0
 rotate_left
 ·have d3 : (P != 0) = true := by simpa using q3
  go_wp2
  go_ret
  exact ⟨by rw [bY om om om]; first | done | rfl, HB.o _⟩
 subst q3
 by_cases q4 : 63 < B
 ·have d4 : decide (63 < B) = true := zV q4
  go_wp2
  go_ret
  exact ⟨by rw [bY om om om]; first | done | rfl, HB.o _⟩
 have d4 : decide (63 < B) = false := zM q4
 by_cases q5 : 0 <= B
 ·have d5 : decide (0 <= B) = true := zV q5
  go_wp2
  go_ret
  exact ⟨by rw [bY om om om]; first | done | rfl, HB.o _⟩
 have d5 : decide (0 <= B) = false := zM q5
 by_cases q6 : B < -1
 ·have d6 : decide (B < -1) = true := zV q6
  go_wp2
  go_ret
  exact ⟨by rw [rR om om om om]; first | done | rfl, HB.o _⟩
 have d6 : decide (B < -1) = false := zM q6
 by_cases q7 : B = -1
 ·subst q7
  by_cases q8 : 0 < n2
  ·have d8 : decide (0 < n2) = true := zV q8
   go_wp2
   go_ret
   exact ⟨by rw [rR om om om om]; first | done | rfl, HB.o _⟩
  ·obtain rfl : n2 = 0 := om
   go_wp2
   go_ret
   exact ⟨by rw [oQ om om om om]; first | done | rfl, HB.o _⟩
 have d7 : (B == -1) = false := by simpa using q7
 exfalso; omega
theorem ref_Check (h : Hp.Hop) (h1 : h.labels.length <= 1073741824) (h2 : h.repair.length <= 1073741824) (l r : Value) (w : World) (hl : SlR w 1 encI l h.labels) (hr : SlR w 1 encI r h.repair) :
  zCB 77 #[.agg (hopA h l r)] w (.int .i64 (Hp.checkR h)) := by
 have U1 : ∀ W, zW w W -> zCQ 122 #[l] W (.bool (h.labels.all Hp.pushed)) := fun W hW => ref_labels _ h1 l W (hl.below hW zn); have U2 : ∀ W, zW w W -> zCQ 122 #[r] W (.bool (h.repair.all Hp.pushed)) := fun W hW => ref_labels _ h2 r W (hr.below hW zn); rw [chk_eq]; obtain ⟨p1, c1, rfl, -, -, -⟩ := hl; obtain ⟨p2, c2, rfl, -, -, -⟩ := hr; obtain ⟨op, L, P, B, R, C⟩ := h; unfold hopA; simp only at *; generalize L.all Hp.pushed = a at *; generalize R.all Hp.pushed = b at *; change Calls _ _ _ _ (sM _ w)
 by_cases ho : op < 0 ∨ 3 < op
 ·rw [chk_1 om]
  exact ref_Check_off op P B C _ _ w ho
 by_cases hf : 2 <= op /\ 0 < L.length
 ·rw [chk_1 om]
  exact ref_Check_full op P B C _ _ p1 p2 c1 c2 w hf.1 om hf.2
 by_cases hn : op = 1 /\ L.length = 0
 ·rw [chk_1 om, hn.1, hn.2]
  exact ref_Check_none P B C _ p1 p2 c1 c2 w
 have hcs : op = 0 ∨ op = 1 ∨ op = 2 ∨ op = 3 := om
 rcases hcs with rfl | rfl | rfl | rfl
 ·exact zFm _ P B C a b _ _ om h1 h2 p1 p2 c1 c2 w U1 U2
 ·exact zFm _ P B C a b _ _ om h1 h2 p1 p2 c1 c2 w U1 U2
 ·have h0 : L.length = 0 := om
  rw [h0] at U1 ⊢; exact ref_Check2 P B C a b _ h2 p1 p2 c1 c2 w U1 U2
 ·have h0 : L.length = 0 := om
  rw [h0] at U1 ⊢; exact ref_Check3 P B C a b _ h2 p1 p2 c1 c2 w U1 U2
end Go.Proofs.YtdbgeobolongmaaGreatDoor
