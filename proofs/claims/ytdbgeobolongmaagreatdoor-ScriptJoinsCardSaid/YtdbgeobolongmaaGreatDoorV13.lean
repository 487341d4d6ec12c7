/- Part of the proof: contracts of the functions that the statements of layer 32 reach. -/
import Derived.ChangeKeysEq
import Derived.Laws.StructEq
import Derived.Deep.WholeRow
import Derived.BigFrame
import Derived.Test.YtdbgeobolongmaaGreatDoorV04
import Derived.Test.YtdbgeobolongmaaGreatDoorV12
set_option linter.unusedVariables false
set_option linter.unusedSimpArgs false
set_option maxRecDepth 100000
set_option maxHeartbeats 4000000
namespace Go.Proofs.YtdbgeobolongmaaGreatDoor
open Go.RowKit Go.Shelf Go.Proofs Go.OctetPlain
def I64 (n : Int) : Prop := -9223372036854775808 ≤ n ∧ n ≤ 9223372036854775807
structure HB (h : Hp.Hop) : Prop where
 n1 : h.labels.length ≤ 1000
 n2 : h.repair.length ≤ 1000
 p1 : ∀ n ∈ h.labels, -9223372036854775808 ≤ n ∧ n ≤ 9223372036854775807
 p2 : ∀ n ∈ h.repair, -9223372036854775808 ≤ n ∧ n ≤ 9223372036854775807
 q : -9223372036854775808 ≤ h.port ∧ h.port ≤ 9223372036854775807
 b : -9223372036854775808 ≤ h.backup ∧ h.backup ≤ 9223372036854775807
def showWA (h : Hp.Hop) : List Hp.Wd :=
 [Hp.opW h.op] ++ h.labels.map Lib.itoa ++ (if h.op ≠ 3 then [Hp.wPort, Lib.itoa h.port] else []) ++ (if h.backup ≠ -1 then Hp.wBackup :: Lib.itoa h.backup :: h.repair.map Lib.itoa else []) ++ (if h.pipe then [Hp.wPipe] else [])
theorem showWA_valid {h : Hp.Hop} (v : Hp.Valid h) : showWA h = Hp.showW h := by
 have k : ∀ l : List Int, (∀ n ∈ l, Hp.pushed n = true) → l.map Lib.itoa = l.map Hp.dec := fun l hl => List.map_congr_left fun n hn => itoa_pos (Hp.pushed_bd (hl n hn)).1
 unfold showWA Hp.showW
 rw [k _ v.p1, k _ v.p2, itoa_pos v.q0]
 by_cases hb : h.backup = -1
 ·simp only [hb, ne_eq, not_true_eq_false, if_false]
 ·rw [itoa_pos (by have := v.b0; omega)]
theorem HB.of_valid {h : Hp.Hop} (v : Hp.Valid h) : HB h := by
 have n1 := v.n1
 have n2 := v.n2
 have q0 := v.q0
 have q1 := v.q1
 have b0 := v.b0
 have b1 := v.b1
 exact ⟨by omega, by omega, fun n hn => by have := Hp.pushed_bd (v.p1 n hn); omega, fun n hn => by have := Hp.pushed_bd (v.p2 n hn); omega, by omega, by omega⟩
theorem showWA_len {h : Hp.Hop} (v : HB h) : (showWA h).length ≤ 2010 ∧ ∀ w ∈ showWA h, w.length ≤ 21 := by
 have e1 := v.n1
 have e2 := v.n2
 refine ⟨?_, fun w hw => ?_⟩
 ·unfold showWA
  simp only [List.length_append, List.length_map, List.length_cons, List.length_nil]
  split <;> split <;> split <;> simp <;> omega
 ·unfold showWA at hw
  simp only [List.mem_append, List.mem_map, List.mem_singleton, List.mem_cons, List.not_mem_nil, or_false] at hw
  rcases hw with (((rfl | ⟨n, hn, rfl⟩) | hw) | hw) | hw
  ·unfold Hp.opW; (repeat' split) <;> simp [Hp.wPush, Hp.wSwap, Hp.wPop, Hp.wHere]
  ·exact Lib.itoa_length_le _ (v.p1 n hn).1 (v.p1 n hn).2
  ·split at hw
   ·simp only [List.mem_cons, List.not_mem_nil, or_false] at hw
    rcases hw with rfl | rfl
    ·simp [Hp.wPort]
    ·exact Lib.itoa_length_le _ v.q.1 v.q.2
   ·simp at hw
  ·split at hw
   ·simp only [List.mem_cons, List.mem_map] at hw
    rcases hw with rfl | rfl | ⟨n, hn, rfl⟩
    ·simp [Hp.wBackup]
    ·exact Lib.itoa_length_le _ v.b.1 v.b.2
    ·exact Lib.itoa_length_le _ (v.p2 n hn).1 (v.p2 n hn).2
   ·simp at hw
  ·split at hw
   ·simp only [List.mem_singleton] at hw
    subst hw; simp [Hp.wPipe]
   ·simp at hw
theorem hop_digitsA (L : List Int) (hL : L.length ≤ 1000) (hb : ∀ n ∈ L, -9223372036854775808 ≤ n ∧ n ≤ 9223372036854775807) (v : Value) (w : World) (ht : Tabs w) (hv : SlR w 1 encI v L) :
  Calls Tryz.prog 137 #[v] w fun e w' => ∃ v', e = .returned v' ∧ w'.ownsRow w.heap.size 9 1 v' L.length (flat encS (L.map Lib.itoa)) ∧ Below w.heap.size w w' := by
 have HT := qh ht
 obtain ⟨p, cap, rfl, hc1, hc2, hR⟩ := hv
 clear ht
 go_enter Tryz.func137, Tryz.ntmps137
 go_wp2_with fail
 go_loopw [3, 5, 8] (fun vo _ vi wr => ∃ k : Nat, vi = .int .i64 k ∧ k ≤ L.length ∧ Hid (wr.ownsRow w.heap.size 9 1 vo k (flat encS ((L.take k).map Lib.itoa))) ∧ Hid (Below w.heap.size w wr)) (fun _ _ vi _ => L.length - (intOf vi).toNat)
 case atStart => exact ⟨0, rfl, Nat.zero_le _, qh (World.ownsRow_nil _ _ _ _), qh (Below.refl _ _)⟩
 case round =>
  obtain ⟨k, rfl, hk, HO, HB⟩ := hrel
  by_cases hlt : k < L.length
  ·obtain ⟨n, hn⟩ : ∃ n, L[k]? = some n := ⟨L[k], List.getElem?_eq_getElem hlt⟩
   have hnb := hb n (List.mem_of_getElem? hn)
   obtain ⟨b, off, rfl, hbs, hcell⟩ := hR.at hlt
   have hLk : L[k] = n := by have := List.getElem?_eq_getElem hlt; rw [hn] at this; cases this; rfl
   have hc0 := hcell 0 (.int .i64 n) (by rw [hLk]; rfl)
   simp only [Nat.mul_one, Nat.add_zero] at hc0
   have hc : wr.cell? ⟨b, off + k, none⟩ = some (.int .i64 n) := (HB.out.cell (p := ⟨b, off + k, none⟩) hbs).trans hc0
   have HTK : Hid ((L.take (k + 1)).map Lib.itoa = (L.take k).map Lib.itoa ++ [Lib.itoa n]) := by
    rw [List.take_succ_eq_append_getElem hlt, List.map_append, hLk]; exact qh rfl
   have HF := qh (octet_Digits n hnb wr (HT.out.next HB.out (Nat.le_refl _)))
   clear hcell hc0 hLk hn
   go_wp2_with fail
   refine HF.out.mono ?_
   rintro e w1 ⟨rfl, hb1⟩
   have HB1 := qh hb1
   have HO1 := qh (owns_below HO.out hb1 (Nat.le_refl _))
   have hz1 := hb1.size
   have hz := HB.out.size
   clear hb1
   go_wp2_with (at_builtin; go_loud (refine wpList_app elemS rfl (.tmp 12) (.tmp 15) rfl w.heap.size u3 _ _ rfl HO1.out 1 1 [.string _] rfl rfl (by simp [Value.oneCell']) (by omega) (by omega) ?_; intro v4 w4 hown4 _ _ hb4))
   exact ⟨⟨k + 1, by go_num, by omega, qh (by rw [HTK.out, flat_append]; exact hown4), qh ((HB.out.trans (HB1.out.mono hz)).trans hb4)⟩, by simp [intOf]; omega⟩
  ·have hkl : k = L.length := by omega
   have hO := HO.out
   rw [hkl, List.take_length] at hO
   have HO2 := qh hO
   clear hO
   go_wp2_with fail
   go_ret
   exact ⟨_, rfl, HO2.out, HB.out⟩
theorem hop_ShowA (h : Hp.Hop) (V : HB h) (l r : Value) (w : World) (ht : Tabs w) (H : HopIs w h l r) :
  Calls Tryz.prog 99 #[.agg (hopA h l r)] w fun e w' => e = .returned (.string (str (Hp.join (showWA h)))) ∧ Below w.heap.size w w' := by
 have hsl := showWA_len V
 have hjl : (Hp.join (showWA h)).length ≤ 140737488355328 := by have := hjoin_le _ hsl.2; omega
 have HJ : Hid (∀ v W, SlR W 1 encS v (showWA h) → Calls Tryz.prog 34 #[v, .string ⟨#[32]⟩] W fun e w' => e = .returned (.string (str (Hp.join (showWA h)))) ∧ Below W.heap.size W w') := qh fun v W hv => joinS_any _ (by omega) hjl v W hv
 have HDL : Hid (∀ W, Below w.heap.size w W → Calls Tryz.prog 137 #[l] W fun e w' => ∃ v', e = .returned v' ∧ w'.ownsRow W.heap.size 9 1 v' h.labels.length (flat encS (h.labels.map Lib.itoa)) ∧ Below W.heap.size W w') :=
  qh fun W hW => hop_digitsA _ V.n1 V.p1 l W (ht.next hW (Nat.le_refl _)) (H.sl.below hW (Nat.le_refl _))
 have HDR : Hid (∀ W, Below w.heap.size w W → Calls Tryz.prog 137 #[r] W fun e w' => ∃ v', e = .returned v' ∧ w'.ownsRow W.heap.size 9 1 v' h.repair.length (flat encS (h.repair.map Lib.itoa)) ∧ Below W.heap.size W w') :=
  qh fun W hW => hop_digitsA _ V.n2 V.p2 r W (ht.next hW (Nat.le_refl _)) (H.sr.below hW (Nat.le_refl _))
 have HOP := qh fun W => hop_op h.op W
 have HDP : Hid (∀ W, Below w.heap.size w W → Calls Tryz.prog 41 #[.int .i64 h.port] W fun e w' => e = .returned (.string (str (Lib.itoa h.port))) ∧ Below W.heap.size W w') := qh fun W hW => octet_Digits h.port V.q W (ht.next hW (Nat.le_refl _))
 have HDB : Hid (h.backup ≠ -1 → ∀ W, Below w.heap.size w W → Calls Tryz.prog 41 #[.int .i64 h.backup] W fun e w' => e = .returned (.string (str (Lib.itoa h.backup))) ∧ Below W.heap.size W w') := qh fun hb W hW => octet_Digits h.backup V.b W (ht.next hW (Nat.le_refl _))
 have HL := qh hsl.1
 have HW : Hid (showWA h = [Hp.opW h.op] ++ h.labels.map Lib.itoa ++ (if h.op ≠ 3 then [Hp.wPort, Lib.itoa h.port] else []) ++ (if h.backup ≠ -1 then Hp.wBackup :: Lib.itoa h.backup :: h.repair.map Lib.itoa else []) ++ (if h.pipe then [Hp.wPipe] else [])) := qh rfl
 have n1 := V.n1
 have n2 := V.n2
 obtain ⟨-, -, ⟨p1, c1, rfl, -, -, -⟩, ⟨p2, c2, rfl, -, -, -⟩⟩ := H
 obtain ⟨op, L, P, B, R, C⟩ := h
 unfold hopA
 simp only at *
 clear V ht hsl hjl
 generalize Hp.opW op = ow at *
 go_enter Tryz.func99, Tryz.ntmps99
 go_upto_region 1 with fail
 go_cut [3] from 4 to 41 (fun s3 wx => Hid (ShS w wx (.int .i64 op) (.slice p1 L.length c1) (.int .i64 P) (.int .i64 B) (.slice p2 R.length c2) (.bool C) ([ow] ++ L.map Lib.itoa) s3))
 case first =>
  have H0 : ShB w (w.alloc (.cells #[.int .i64 op, .slice p1 L.length c1, .int .i64 P, .int .i64 B, .slice p2 R.length c2, .bool C] 29)) (.int .i64 op) (.slice p1 L.length c1) (.int .i64 P) (.int .i64 B) (.slice p2 R.length c2) (.bool C) := ⟨Blk.new _ _ _, belowA w _⟩
  refine wp_region_held_drew (S := fun W => ShB w W (.int .i64 op) (.slice p1 L.length c1) (.int .i64 P) (.int .i64 B) (.slice p2 R.length c2) (.bool C)) (by kernel_rfl) H0.drew (fun hHeld => ?_)
  refine kq 0 ?_
  refine kq 1 ?_ (hy := by intro w h; have hf := h.cs.1; go_simp; try with_reducible rfl)
  refine kq 4 ?_
  refine kq 5 ?_ (hy := by intro w h; have hf := h.cs.2.1; go_simp; try with_reducible rfl)
  refine zS 2 fun K hK => ?_
  go_simp
  refine (HOP.out _).mono ?_; rintro e w1 ⟨rfl, hb1⟩
  go_wp2_with fail
  refine hK.out _ _ (ShB.step (by assumption) hb1) (fun hHeld => ?_)
  clear hK K
  try simp only [qA, qB, qC, qD, qE, qF, qG]
  refine held_two (i := 3) (j := 6) rfl rfl (by kernel_rfl) (by rfl) (by rfl) (fun K hK => ?_) (fun K hK => ?_)
  ·go_simp
   have hz1 := (ShB.b (by assumption)).lt
   refine hK.out _ _ (ShB.step (by assumption) (belowA _ _)) (fun hHeld => ?_)
   clear hK K
   try simp only [qA, qB, qC, qD, qE, qF, qG]
   refine zS 6 fun K hK => ?_
   go_simp
   refine (HDL.out _ (ShB.bel (by assumption))).mono ?_; rintro e w2 ⟨v2, rfl, ho2, hb2⟩; obtain ⟨p3, c3, rfl, -, -, hR3⟩ := SlR.of_owns encS_len (by simpa using ho2 : w2.ownsRow _ _ 1 v2 (L.map Lib.itoa).length (flat encS (L.map Lib.itoa)))
   go_wp2_with fail
   refine hK.out _ _ (ShB.step (by assumption) hb2) (fun hHeld => ?_)
   clear hK K
   try simp only [qA, qB, qC, qD, qE, qF, qG]
   refine zS 7 fun K hK => ?_
   refine wp_app_sl elemS (.tmp 7) (.tmp 10) rfl (w.heap.size + 1) _ 1 [.string (str ow)] rfl (owns_base (owns_below (owns_lit w1 _ #[.string (str ow)] 1 rfl (by omega)) hb2 (Nat.le_refl _)) hz1) encS encS_len p3 c3 (L.map Lib.itoa) (by rw [List.length_map]; rfl) (hR3) encS_one (by simp; omega) (by have := (ShB.b (by assumption)).lt; omega) ?_
   intro v4 w4 hown4 hb4
   refine hK.out _ _ (ShB.next (by assumption) hb4 (by omega)) (fun hHeld => ?_)
   clear hK K
   try simp only [qA, qB, qC, qD, qE, qF, qG]
   refine wpAnyH_take (i := 8) (v := ?_) rfl (by kernel_rfl) (by kernel_rfl) (by kernel_rfl) (fun _ _ _ h => h) (Or.inl ⟨by rfl, ?_⟩) (by assumption) ?_
   rotate_left
   ·intro w hSw; go_simp; try with_reducible rfl
   try simp only [qA, qB, qC, qD, qE, qF, qG]
   refine zD ?_
   go_wp2_with fail
   go_meet
   exact qh ⟨by assumption, by rw [List.length_append, List.length_map, flat_append]; rw [List.length_map] at hown4; exact hown4⟩
  ·go_simp
   refine (HDL.out _ (ShB.bel (by assumption))).mono ?_; rintro e w2 ⟨v2, rfl, ho2, hb2⟩; obtain ⟨p3, c3, rfl, -, -, hR3⟩ := SlR.of_owns encS_len (by simpa using ho2 : w2.ownsRow _ _ 1 v2 (L.map Lib.itoa).length (flat encS (L.map Lib.itoa)))
   go_wp2_with fail
   refine hK.out _ _ (ShB.step (by assumption) hb2) (fun hHeld => ?_)
   clear hK K
   try simp only [qA, qB, qC, qD, qE, qF, qG]
   have hz1 := (ShB.b (by assumption)).lt
   refine zS 3 fun K hK => ?_
   go_simp
   refine hK.out _ _ (ShB.step (by assumption) (belowA _ _)) (fun hHeld => ?_)
   clear hK K
   try simp only [qA, qB, qC, qD, qE, qF, qG]
   refine zS 7 fun K hK => ?_
   refine wp_app_sl elemS (.tmp 7) (.tmp 10) rfl (w.heap.size + 1) _ 1 [.string (str ow)] rfl (owns_base (owns_lit w2 _ #[.string (str ow)] 1 rfl (by omega)) hz1) encS encS_len p3 c3 (L.map Lib.itoa) (by rw [List.length_map]; rfl) (hR3.below (belowA _ _) (Nat.le_refl _)) encS_one (by simp; omega) (by have := (ShB.b (by assumption)).lt; omega) ?_
   intro v4 w4 hown4 hb4
   refine hK.out _ _ (ShB.next (by assumption) hb4 (by omega)) (fun hHeld => ?_)
   clear hK K
   try simp only [qA, qB, qC, qD, qE, qF, qG]
   refine wpAnyH_take (i := 8) (v := ?_) rfl (by kernel_rfl) (by kernel_rfl) (by kernel_rfl) (fun _ _ _ h => h) (Or.inl ⟨by rfl, ?_⟩) (by assumption) ?_
   rotate_left
   ·intro w hSw; go_simp; try with_reducible rfl
   try simp only [qA, qB, qC, qD, qE, qF, qG]
   refine zD ?_
   go_wp2_with fail
   go_meet
   exact qh ⟨by assumption, by rw [List.length_append, List.length_map, flat_append]; rw [List.length_map] at hown4; exact hown4⟩
 case rest =>
  have H1 := hcut
  clear hcut
  obtain ⟨d0, d1, d2, d3, d4, d5⟩ := H1.out.S.cs
  go_upto_if 14 with fail
  go_cut [3] from 14 to 41 (fun s3 wx => Hid (ShS w wx (.int .i64 op) (.slice p1 L.length c1) (.int .i64 P) (.int .i64 B) (.slice p2 R.length c2) (.bool C) ([ow] ++ L.map Lib.itoa ++ (if op ≠ 3 then [Hp.wPort, Lib.itoa P] else [])) s3))
  case first =>
   by_cases ho : op = 3
   ·subst ho
    go_wp2_with fail
    go_meet
    rw [if_neg (by simp), List.append_nil]
    exact H1
   ·have hne : (op != 3) = true := by simpa using ho
    go_wp2_with fail
    refine (HDP.out _ H1.out.S.bel).mono ?_
    rintro e w2 ⟨rfl, hb2⟩
    have H2 := qh (H1.out.next hb2)
    have hlt := H2.out.S.b.lt
    clear hb2
    go_wp2_with (at_builtin; go_loud (refine wpList_app elemS rfl (.tmp 15) (.tmp 19) rfl (w.heap.size + 1) u3 _ _ rfl H2.out.own 2 2 [.string _, .string _] rfl rfl (by simp [Value.oneCell']) (by simp; omega) (by omega) ?_; intro v4 w4 hown4 _ _ hb4))
    go_meet
    rw [if_pos ho]
    exact qh (H2.out.app [Hp.wPort, Lib.itoa P] hown4 hb4)
  case rest =>
   have H2 := hcut
   clear hcut H1 d0 d1 d2 d3 d4 d5
   obtain ⟨d0, d1, d2, d3, d4, d5⟩ := H2.out.S.cs
   have hWl : ([ow] ++ L.map Lib.itoa ++ (if op ≠ 3 then [Hp.wPort, Lib.itoa P] else [])).length ≤ 1010 := by
    simp only [List.length_append, List.length_map, List.length_cons, List.length_nil]
    split <;> simp <;> omega
   generalize hW1 : ([ow] ++ L.map Lib.itoa ++ (if op ≠ 3 then [Hp.wPort, Lib.itoa P] else [])) = W1 at *
   have HW1 := qh hW1
   clear hW1
   go_upto_if 23 with fail
   go_cut [3] from 23 to 41 (fun s3 wx => Hid (ShS w wx (.int .i64 op) (.slice p1 L.length c1) (.int .i64 P) (.int .i64 B) (.slice p2 R.length c2) (.bool C) (W1 ++ (if B ≠ -1 then Hp.wBackup :: Lib.itoa B :: R.map Lib.itoa else [])) s3))
   case first =>
    by_cases ho : B = -1
    ·subst ho
     go_wp2_with fail
     go_meet
     rw [if_neg (by simp), List.append_nil]
     exact H2
    ·have hne : (B != -1) = true := by simpa using ho
     have HDB2 := qh (HDB.out ho)
     have HO := qh ho
     clear ho
     go_wp2_with fail
     refine (HDB2.out _ H2.out.S.bel).mono ?_
     rintro e w2 ⟨rfl, hb2⟩
     have H3 := qh (H2.out.next hb2)
     have hlt := H3.out.S.b.lt
     clear hb2
     go_wp2_with (at_builtin; go_loud (refine wpList_app elemS rfl (.tmp 24) (.tmp 28) rfl (w.heap.size + 1) u3 _ _ rfl H3.out.own 2 2 [.string _, .string _] rfl rfl (by simp [Value.oneCell']) (by omega) (by omega) ?_; intro v4 w4 hown4 _ _ hb4; have H4 := qh (H3.out.app [Hp.wBackup, Lib.itoa B] hown4 hb4); obtain ⟨k0, k1, k2, k3, k4, k5⟩ := H4.out.S.cs; clear hown4 hb4))
     refine (HDR.out _ H4.out.S.bel).mono ?_
     rintro e w5 ⟨v5, rfl, ho5, hb5⟩
     have H5 := qh (H4.out.next hb5)
     obtain ⟨p3, c3, rfl, -, -, hR3⟩ := SlR.of_owns encS_len (by simpa using ho5 : w5.ownsRow _ _ 1 v5 (R.map Lib.itoa).length (flat encS (R.map Lib.itoa)))
     have HR3 := qh hR3
     have hlt5 := H5.out.S.b.lt
     clear hb5 ho5 hR3
     go_wp2_with (at_builtin; go_loud (refine wpList_app_sl elemS rfl (.tmp 30) (.tmp 33) rfl (w.heap.size + 1) v4 _ _ rfl H5.out.own encS encS_len p3 c3 (R.map Lib.itoa) (by rw [List.length_map]; rfl) HR3.out encS_one (by simp; omega) (by omega) ?_; intro v6 w6 hown6 _ _ hb6; have H6 := qh (H5.out.app (R.map Lib.itoa) hown6 hb6); clear hown6 hb6))
     go_meet
     rw [if_pos HO.out]
     have := H6.out
     rw [List.append_assoc] at this
     exact qh this
   case rest =>
    have H3 := hcut
    clear hcut H2 d0 d1 d2 d3 d4 d5
    obtain ⟨d0, d1, d2, d3, d4, d5⟩ := H3.out.S.cs
    have hXl : (W1 ++ (if B ≠ -1 then Hp.wBackup :: Lib.itoa B :: R.map Lib.itoa else [])).length ≤ 2020 := by
     simp only [List.length_append]
     split <;> simp <;> omega
    have HE : Hid (showWA ⟨op, L, P, B, R, C⟩ = (W1 ++ (if B ≠ -1 then Hp.wBackup :: Lib.itoa B :: R.map Lib.itoa else [])) ++ (if C = true then [Hp.wPipe] else [])) := by rw [HW.out]; exact qh rfl
    clear HW1 HW hWl
    generalize (W1 ++ (if B ≠ -1 then Hp.wBackup :: Lib.itoa B :: R.map Lib.itoa else [])) = W2 at *
    cases C
    ·have HE2 : Hid (showWA ⟨op, L, P, B, R, false⟩ = W2) := by rw [HE.out]; exact qh (by simp)
     go_wp2_with fail
     refine (HJ.out _ _ (by rw [HE2.out]; exact SlR.of_owns encS_len H3.out.own)).mono ?_
     rintro e w5 ⟨rfl, hb5⟩
     have H5 := qh (H3.out.next hb5)
     clear hb5
     go_wp2_with fail
     go_ret
     exact ⟨rfl, H5.out.S.bel⟩
    ·have HE2 : Hid (showWA ⟨op, L, P, B, R, true⟩ = W2 ++ [Hp.wPipe]) := by rw [HE.out]; exact qh (by simp)
     have hlt := H3.out.S.b.lt
     go_wp2_with (at_builtin; go_loud (refine wpList_app elemS rfl (.tmp 37) (.tmp 38) rfl (w.heap.size + 1) u3 _ _ rfl H3.out.own 1 1 [.string _] rfl rfl (by simp [Value.oneCell']) (by omega) (by omega) ?_; intro v4 w4 hown4 _ _ hb4; have H4 := qh (H3.out.app [Hp.wPipe] hown4 hb4); clear hown4 hb4))
     refine (HJ.out _ _ (by rw [HE2.out]; exact SlR.of_owns encS_len H4.out.own)).mono ?_
     rintro e w5 ⟨rfl, hb5⟩
     have H5 := qh (H4.out.next hb5)
     clear hb5
     go_wp2_with fail
     go_ret
     exact ⟨rfl, H5.out.S.bel⟩
end Go.Proofs.YtdbgeobolongmaaGreatDoor
namespace Go.Proofs.YtdbgeobolongmaaGreatDoor
open Go.RowKit Go.Shelf Go.Proofs
theorem wpList_store_new {P : Program} {ops : Array Oper} {rest : List Oper} {o : Oper} {a : Act} {w : World} {Q : Exit → Act → World → Prop} (hgd : o.guard = none) (ty : TypeId) (x y : Operand) (ho : o.op = .store ty x y)
  (cells : Array Value) (hx : a.eval x = .pointer (some ⟨w.heap.size, 0, none⟩)) (hy : a.eval y = .agg cells) (t : TypeId) (old : Array Value) (hi : (P.info? ty).map (·.size) = some cells.size) (hold : old.size = cells.size) (h1 : cells.all (·.oneCell') = true)
  (h : wpList P ops Q rest (a.put o.dst undef) (w.alloc (.cells cells t))) : wpList P ops Q (o :: rest) a (w.alloc (.cells old t)) := by
 refine wpList_store_row hgd ty x y ho w.heap.size cells hx hy t old (heap_alloc_last w _) hi hold h1 ?_
 rw [World.setRow_alloc_new]
 exact h
theorem wpList_load_want {P : Program} {ops : Array Oper} {rest : List Oper} {o : Oper} {a : Act} {w : World} {Q : Exit → Act → World → Prop} (hw : Region.wanted o (yielded ops a.tmps) = true) (ty : TypeId) (x : Operand) (ho : o.op = .load ty x)
  (g : Nat) (hx : a.eval x = .pointer (some ⟨g, 0, none⟩)) (t : TypeId) (cs : Array Value) (fr : Nat × Nat) (d : TypeDesc) (hg : w.heap[g]? = some (.cells cs t fr))
  (hu : P.underlying ty = some d) (hd : (match d with | .struct _ | .array _ _ => true | _ => false) = true) (hi : (P.info? ty).map (·.size) = some cs.size)
  (h : wpList P ops Q rest (a.put o.dst (.agg cs)) w) : wpList P ops Q (o :: rest) a w :=
 BigFrame.wpList_want hw fun _ hK => wp_load_row ty x ho g hx t cs fr d hg hu hd hi (hK _ _ h)
theorem eqItems_any {α : Type} [DecidableEq α] {P : Program} {e : TypeId} {d : Nat} (f : α → Value) (hp : ∀ (cs : Array Value) (off : Nat) (v : Value) (w : World), cs[off]? = some v → (part e cs off).run P w = .ok v w)
  (hf : ∀ (x y : α) (w : World), (Op.equalIn d e (f x) (f y)).run P w = .ok (decide (x = y)) w) (a b : List α) : ∀ (is : List Nat) (w : World), (∀ j ∈ is, j < a.length ∧ j < b.length) →
   (Op.eqItems d e 1 (a.map f).toArray (b.map f).toArray is).run P w = .ok (decide (∀ j ∈ is, a[j]? = b[j]?)) w
 | [], w, _ => by simp [Op.eqItems]
 | j :: is, w, h => by
  obtain ⟨h1, h2⟩ := h j (by simp)
  have ih := eqItems_any f hp hf a b is w fun k hk => h k (by simp [hk])
  have p1 := hp (a.map f).toArray (j * 1) (f a[j]) w (by simp [h1])
  have p2 := hp (b.map f).toArray (j * 1) (f b[j]) w (by simp [h2])
  simp only [Op.eqItems, Sem.run_bind, p1, p2, Result.andThen_ok, hf]
  by_cases hab : a[j] = b[j]
  ·rw [decide_eq_true hab]
   simp only [Bool.not_true, Bool.false_eq_true, if_false]
   rw [ih]
   congr 1
   simp [h1, h2, hab]
  ·rw [decide_eq_false hab]
   simp [h1, h2, hab]
theorem range_eq {α : Type} {a b : List α} {n : Nat} (ha : a.length = n) (hb : b.length = n) : (∀ j ∈ List.range n, a[j]? = b[j]?) ↔ a = b := by
 constructor
 ·intro h
  apply List.ext_getElem?
  intro j
  by_cases hj : j < n
  ·exact h j (by simpa using hj)
  ·rw [List.getElem?_eq_none (by omega), List.getElem?_eq_none (by omega)]
 ·rintro rfl _ _; rfl
end Go.Proofs.YtdbgeobolongmaaGreatDoor
