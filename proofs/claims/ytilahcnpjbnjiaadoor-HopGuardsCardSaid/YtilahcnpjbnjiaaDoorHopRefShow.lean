/- The document's hop texts: row, Show. -/
import Derived.Test.YtilahcnpjbnjiaaDoorHopRef
import Derived.Test.YtilahcnpjbnjiaaDoorHopShow
import Derived.Test.YtilahcnpjbnjiaaDoorHopSplit
namespace Go.Proofs.YtilahcnpjbnjiaaDoor
set_option linter.unusedVariables false
set_option linter.unusedSimpArgs false
open Go.RowKit Go.Shelf Go.Proofs Go.OctetPlain

/-- digits, a space ahead of each -/
def rowS (L : List Int) : List UInt8 := L.flatMap fun n => 32 :: Hp.dec n
theorem join_flat (w : Hp.Wd) : ∀ ws : List Hp.Wd, Hp.join (w :: ws) = w ++ ws.flatMap fun v => 32 :: v
  | [] => by simp [Hp.join]
  | v :: ws => by
    rw [Hp.join, join_flat v ws]
    simp
theorem rowS_map (L : List Int) : (L.map Hp.dec).flatMap (fun v => (32 : UInt8) :: v) = rowS L := by
  induction L with
  | nil => rfl
  | cons n L ih => simp only [List.map_cons, List.flatMap_cons, rowS] at ih ⊢; rw [ih]
theorem showR_parts (h : Hp.Hop) : Hp.showR h = Hp.opW h.op ++ rowS h.labels ++ (if h.op ≠ 3 then [32, 112, 111, 114, 116, 32] ++ Hp.dec h.port else []) ++ (if h.backup ≠ -1 then [32, 98, 97, 99, 107, 117, 112, 32] ++ Hp.dec h.backup ++ rowS h.repair else []) ++ (if h.pipe = true then [32, 112, 105, 112, 101] else []) := by
  unfold Hp.showR Hp.showW
  rw [List.append_assoc, List.append_assoc, List.append_assoc, List.singleton_append, join_flat]
  simp only [List.flatMap_append, rowS_map, List.append_assoc]
  congr 2
  congr 1
  · split <;> simp [Hp.wPort]
  congr 1
  · split
    · simp only [List.flatMap_cons, rowS_map, Hp.wBackup]; simp
    · simp
  · split <;> simp [Hp.wPipe]
theorem rowS_len {L : List Int} (hL : L.length ≤ 16) (hb : ∀ n ∈ L, 0 ≤ n ∧ n ≤ 1048575) : (rowS L).length ≤ 320 := by
  have : ∀ L : List Int, (∀ n ∈ L, 0 ≤ n ∧ n ≤ 1048575) → (rowS L).length ≤ 20 * L.length := by
    intro L
    induction L with
    | nil => intro _; simp [rowS]
    | cons n L ih =>
      intro hb
      have h1 := dec_len (hb n List.mem_cons_self).2
      have h2 := ih fun k hk => hb k (List.mem_cons_of_mem _ hk)
      simp only [rowS, List.flatMap_cons, List.length_append, List.length_cons] at h2 ⊢
      omega
  have := this L hb
  omega
set_option maxRecDepth 100000 in
set_option maxHeartbeats 1000000 in
theorem ref_row (L : List Int) (hL : L.length ≤ 16) (hb : ∀ n ∈ L, 0 ≤ n ∧ n ≤ 1048575) (v : Value) (w : World) (hv : SlR w 1 encI v L) :
    Calls Tryd.prog 25 #[v] w fun e w' => e = .returned (.string (str (rowS L))) ∧ w' = w := by
  obtain ⟨p, cap, rfl, h1, h2, hR⟩ := hv
  go_enter Tryd.func25, Tryd.ntmps25
  go_wp2_with fail
  go_loop [3, 4] (fun vs vi => ∃ k : Nat, vi = .int .i64 k ∧ k ≤ L.length ∧ vs = .string (str (rowS (L.take k)))) (fun _ vi => L.length - (intOf vi).toNat)
  case atStart => exact ⟨0, rfl, Nat.zero_le _, rfl⟩
  case round =>
    obtain ⟨k, rfl, hk, rfl⟩ := hrel
    by_cases hlt : k < L.length
    · obtain ⟨b, off, rfl, hc⟩ := rd_int hR hlt
      have hc0 : w.cell? ⟨b, off + k, none⟩ = some (.int .i64 L[k]) := hc 0
      have hb0 := hb L[k] (List.getElem_mem hlt)
      have HTK : Hid (rowS (L.take (k + 1)) = rowS (L.take k) ++ (32 :: Hp.dec L[k])) := Lib.hid (by unfold rowS; rw [List.take_succ_eq_append_getElem hlt, List.flatMap_append]; simp only [List.flatMap_cons, List.flatMap_nil, List.append_nil])
      have hrl := rowS_len (L := L.take k) (by simp; omega) (fun n hn => hb n (List.mem_of_mem_take hn))
      have HD := Lib.hid fun W => ref_Digits L[k] (by omega) W
      have HI := Lib.hid (itoa_pos hb0.1)
      have hdl := dec_len hb0.2
      have hs1 : (str (rowS (L.take k))).size = (rowS (L.take k)).length := str_size _
      have hs2 : (str (Hp.dec L[k])).size = (Hp.dec L[k]).length := str_size _
      have hs3 : (ByteArray.mk #[32]).size = 1 := rfl
      generalize L[k] = n at *
      generalize rowS (L.take k) = rs at *
      clear hc
      go_wp2_with fail
      refine (HD.out _).mono ?_
      rintro e w1 ⟨rfl, hw1⟩
      subst hw1
      rw [HI.out]
      go_wp2_with fail
      refine ⟨⟨k + 1, by go_num, by omega, ?_⟩, by simp [intOf]; omega⟩
      rw [HTK.out]
      first | (congr 1; done) | (congr 1; rw [← str_app, show ((32 : UInt8) :: Hp.dec n) = [32] ++ Hp.dec n from rfl, ← str_app])
    · obtain rfl : k = L.length := by omega
      have HE : Hid (L.take L.length = L) := Lib.hid List.take_length
      rw [HE.out]
      go_wp2_with fail
      go_ret
      exact ⟨rfl, rfl⟩
set_option maxRecDepth 100000 in
set_option maxHeartbeats 16000000 in
theorem ref_Show15 (h : Hp.Hop) (V : Hp.Valid h) (l r : Value) (w : World) (H : HopIs w h l r) :
    Calls Tryd.prog 13 #[.agg (hopA h l r)] w fun e w' => e = .returned (.string (str (Hp.showR h))) ∧ Below w.heap.size w w' := by
  rw [showR_parts]
  have HRL : Hid (∀ W, Below w.heap.size w W → Calls Tryd.prog 25 #[l] W fun e w' => e = .returned (.string (str (rowS h.labels))) ∧ w' = W) := Lib.hid fun W hW => ref_row _ V.n1 (fun n hn => Hp.pushed_bd (V.p1 n hn)) l W (H.sl.below hW (Nat.le_refl _))
  have HRR : Hid (∀ W, Below w.heap.size w W → Calls Tryd.prog 25 #[r] W fun e w' => e = .returned (.string (str (rowS h.repair))) ∧ w' = W) := Lib.hid fun W hW => ref_row _ V.n2 (fun n hn => Hp.pushed_bd (V.p2 n hn)) r W (H.sr.below hW (Nat.le_refl _))
  have HDP : Hid (∀ W, Calls Tryd.prog 26 #[.int .i64 h.port] W fun e w' => e = .returned (.string (str (Hp.dec h.port))) ∧ w' = W) := Lib.hid fun W => by
    have := ref_Digits h.port (by have := V.q0; have := V.q1; omega) W
    rw [itoa_pos V.q0] at this; exact this
  have HDB : Hid (h.backup ≠ -1 → ∀ W, Calls Tryd.prog 26 #[.int .i64 h.backup] W fun e w' => e = .returned (.string (str (Hp.dec h.backup))) ∧ w' = W) := Lib.hid fun hb W => by
    have := ref_Digits h.backup (by have := V.b0; have := V.b1; omega) W
    rw [itoa_pos (by have := V.b0; omega)] at this; exact this
  have hrl1 := rowS_len V.n1 (fun n hn => Hp.pushed_bd (V.p1 n hn))
  have hrl2 := rowS_len V.n2 (fun n hn => Hp.pushed_bd (V.p2 n hn))
  have hdl1 := dec_len (show h.port ≤ 1048575 by have := V.q1; omega)
  have hdl2 := dec_len (show h.backup ≤ 1048575 by have := V.b1; omega)
  have ho0 := V.o0
  have ho3 := V.o3
  obtain ⟨-, -, ⟨p1, c1, rfl, -, -, -⟩, ⟨p2, c2, rfl, -, -, -⟩⟩ := H
  obtain ⟨op, L, P, B, R, C⟩ := h
  unfold hopA
  simp only at *
  clear V
  generalize rowS L = r1 at *
  generalize rowS R = r2 at *
  have hs1 : (str r1).size = r1.length := str_size _
  have hs2 : (str r2).size = r2.length := str_size _
  have hs3 : (str (Hp.dec P)).size = (Hp.dec P).length := str_size _
  have hs4 : (str (Hp.dec B)).size = (Hp.dec B).length := str_size _
  generalize Hp.dec P = dP at *
  generalize Hp.dec B = dB at *
  generalize hT : Hp.opW op ++ r1 ++ (if op ≠ 3 then [32, 112, 111, 114, 116, 32] ++ dP else []) ++ (if B ≠ -1 then [32, 98, 97, 99, 107, 117, 112, 32] ++ dB ++ r2 else []) ++ (if C = true then [32, 112, 105, 112, 101] else []) = T
  have HT := Lib.hid hT
  clear hT
  go_enter Tryd.func13, Tryd.ntmps13
  go_upto_region 1 with fail
  go_cut [3] from 4 to 39 (fun s3 wx => s3 = .string (str (Hp.opW op ++ r1)) ∧ Hid (ShB w wx (.int .i64 op) (.slice p1 L.length c1) (.int .i64 P) (.int .i64 B) (.slice p2 R.length c2) (.bool C)))
  case first =>
    have H0 : ShB w (w.alloc (.cells #[.int .i64 op, .slice p1 L.length c1, .int .i64 P, .int .i64 B, .slice p2 R.length c2, .bool C] 24)) (.int .i64 op) (.slice p1 L.length c1) (.int .i64 P) (.int .i64 B) (.slice p2 R.length c2) (.bool C) := ⟨Blk.new _ _ _, belowA w _⟩
    have hcs : op = 0 ∨ op = 1 ∨ op = 2 ∨ op = 3 := by omega
    rcases hcs with rfl | rfl | rfl | rfl
    · have hov : ¬ 9223372036854775807 < 4 + r1.length := by omega
      refine wp_region_held_drew (S := fun W => ShB w W (.int .i64 0) (.slice p1 L.length c1) (.int .i64 P) (.int .i64 B) (.slice p2 R.length c2) (.bool C)) (by kernel_rfl) H0.drew (fun hHeld => ?_)
      refine wpAnyH_take (i := 1) (v := ?_) rfl (by kernel_rfl) (by kernel_rfl) (by kernel_rfl) (fun _ _ _ h => h) (Or.inl ⟨by rfl, ?_⟩) (by assumption) ?_
      rotate_left
      · intro w hSw; go_simp; try with_reducible rfl
      simp only [Act.put, List.setIfInBounds_toArray, List.set_cons_zero, List.set_cons_succ, List.getElem_toArray, List.getElem_cons_zero, List.getElem_cons_succ]
      refine wpAnyH_take (i := 2) (v := ?_) rfl (by kernel_rfl) (by kernel_rfl) (by kernel_rfl) (fun _ _ _ h => h) (Or.inl ⟨by rfl, ?_⟩) (by assumption) ?_
      rotate_left
      · intro w h; have hf := h.cs.1; go_simp; try with_reducible rfl
      simp only [Act.put, List.setIfInBounds_toArray, List.set_cons_zero, List.set_cons_succ, List.getElem_toArray, List.getElem_cons_zero, List.getElem_cons_succ]
      refine wpAnyH_take (i := 5) (v := ?_) rfl (by kernel_rfl) (by kernel_rfl) (by kernel_rfl) (fun _ _ _ h => h) (Or.inl ⟨by rfl, ?_⟩) (by assumption) ?_
      rotate_left
      · intro w hSw; go_simp; try with_reducible rfl
      simp only [Act.put, List.setIfInBounds_toArray, List.set_cons_zero, List.set_cons_succ, List.getElem_toArray, List.getElem_cons_zero, List.getElem_cons_succ]
      refine wpAnyH_take (i := 6) (v := ?_) rfl (by kernel_rfl) (by kernel_rfl) (by kernel_rfl) (fun _ _ _ h => h) (Or.inl ⟨by rfl, ?_⟩) (by assumption) ?_
      rotate_left
      · intro w h; have hf := h.cs.2.1; go_simp; try with_reducible rfl
      simp only [Act.put, List.setIfInBounds_toArray, List.set_cons_zero, List.set_cons_succ, List.getElem_toArray, List.getElem_cons_zero, List.getElem_cons_succ]
      refine held_two (i := 0) (j := 7) rfl rfl (by kernel_rfl) (by rfl) (by rfl) (fun K hK => ?_) (fun K hK => ?_)
      · go_simp
        refine hK.out _ _ (ShB.step (by assumption) (belowA _ _)) (fun hHeld => ?_)
        clear hK K
        try simp only [Act.put, List.setIfInBounds_toArray, List.set_cons_zero, List.set_cons_succ, List.getElem_toArray, List.getElem_cons_zero, List.getElem_cons_succ]
        refine wpAnyH_take (i := 3) (v := ?_) rfl (by kernel_rfl) (by kernel_rfl) (by kernel_rfl) (fun _ _ _ h => h) (Or.inl ⟨by rfl, ?_⟩) (by assumption) ?_
        rotate_left
        · intro w hSw; go_simp; try with_reducible rfl
        simp only [Act.put, List.setIfInBounds_toArray, List.set_cons_zero, List.set_cons_succ, List.getElem_toArray, List.getElem_cons_zero, List.getElem_cons_succ]
        refine held_two (i := 4) (j := 7) rfl rfl (by kernel_rfl) (by rfl) (by rfl) (fun K hK => ?_) (fun K hK => ?_)
        · go_simp
          refine hK.out _ _ (by assumption) (fun hHeld => ?_)
          clear hK K
          try simp only [Act.put, List.setIfInBounds_toArray, List.set_cons_zero, List.set_cons_succ, List.getElem_toArray, List.getElem_cons_zero, List.getElem_cons_succ]
          refine held_step (i := 7) rfl (by kernel_rfl) (by rfl) (fun K hK => ?_)
          go_simp
          refine (HRL.out _ (ShB.bel (by assumption))).mono ?_; rintro e w7 ⟨rfl, hw7⟩; subst hw7
          go_wp2_with fail
          refine hK.out _ _ (by assumption) (fun hHeld => ?_)
          clear hK K
          try simp only [Act.put, List.setIfInBounds_toArray, List.set_cons_zero, List.set_cons_succ, List.getElem_toArray, List.getElem_cons_zero, List.getElem_cons_succ]
          refine wpAnyH_take (i := 8) (v := ?_) rfl (by kernel_rfl) (by kernel_rfl) (by kernel_rfl) (fun _ _ _ h => h) (Or.inl ⟨by rfl, ?_⟩) (by assumption) ?_
          rotate_left
          · intro w hSw; go_simp; try with_reducible rfl
          simp only [Act.put, List.setIfInBounds_toArray, List.set_cons_zero, List.set_cons_succ, List.getElem_toArray, List.getElem_cons_zero, List.getElem_cons_succ]
          refine wpAnyH_take (i := 9) (v := ?_) rfl (by kernel_rfl) (by kernel_rfl) (by kernel_rfl) (fun _ _ _ h => h) (Or.inl ⟨by rfl, ?_⟩) (by assumption) ?_
          rotate_left
          · intro w hSw; go_simp; try with_reducible rfl
          simp only [Act.put, List.setIfInBounds_toArray, List.set_cons_zero, List.set_cons_succ, List.getElem_toArray, List.getElem_cons_zero, List.getElem_cons_succ]
          refine wpAnyH_done (by kernel_rfl) ?_ _
          go_wp2_with fail
          go_meet
          exact ⟨by rw [← str_app]; rfl, Lib.hid (by assumption)⟩
        · go_simp
          refine (HRL.out _ (ShB.bel (by assumption))).mono ?_; rintro e w7 ⟨rfl, hw7⟩; subst hw7
          go_wp2_with fail
          refine hK.out _ _ (by assumption) (fun hHeld => ?_)
          clear hK K
          try simp only [Act.put, List.setIfInBounds_toArray, List.set_cons_zero, List.set_cons_succ, List.getElem_toArray, List.getElem_cons_zero, List.getElem_cons_succ]
          refine held_step (i := 4) rfl (by kernel_rfl) (by rfl) (fun K hK => ?_)
          go_simp
          refine hK.out _ _ (by assumption) (fun hHeld => ?_)
          clear hK K
          try simp only [Act.put, List.setIfInBounds_toArray, List.set_cons_zero, List.set_cons_succ, List.getElem_toArray, List.getElem_cons_zero, List.getElem_cons_succ]
          refine wpAnyH_take (i := 8) (v := ?_) rfl (by kernel_rfl) (by kernel_rfl) (by kernel_rfl) (fun _ _ _ h => h) (Or.inl ⟨by rfl, ?_⟩) (by assumption) ?_
          rotate_left
          · intro w hSw; go_simp; try with_reducible rfl
          simp only [Act.put, List.setIfInBounds_toArray, List.set_cons_zero, List.set_cons_succ, List.getElem_toArray, List.getElem_cons_zero, List.getElem_cons_succ]
          refine wpAnyH_take (i := 9) (v := ?_) rfl (by kernel_rfl) (by kernel_rfl) (by kernel_rfl) (fun _ _ _ h => h) (Or.inl ⟨by rfl, ?_⟩) (by assumption) ?_
          rotate_left
          · intro w hSw; go_simp; try with_reducible rfl
          simp only [Act.put, List.setIfInBounds_toArray, List.set_cons_zero, List.set_cons_succ, List.getElem_toArray, List.getElem_cons_zero, List.getElem_cons_succ]
          refine wpAnyH_done (by kernel_rfl) ?_ _
          go_wp2_with fail
          go_meet
          exact ⟨by rw [← str_app]; rfl, Lib.hid (by assumption)⟩
      · go_simp
        refine (HRL.out _ (ShB.bel (by assumption))).mono ?_; rintro e w7 ⟨rfl, hw7⟩; subst hw7
        go_wp2_with fail
        refine hK.out _ _ (by assumption) (fun hHeld => ?_)
        clear hK K
        try simp only [Act.put, List.setIfInBounds_toArray, List.set_cons_zero, List.set_cons_succ, List.getElem_toArray, List.getElem_cons_zero, List.getElem_cons_succ]
        refine held_step (i := 0) rfl (by kernel_rfl) (by rfl) (fun K hK => ?_)
        go_simp
        refine hK.out _ _ (ShB.step (by assumption) (belowA _ _)) (fun hHeld => ?_)
        clear hK K
        try simp only [Act.put, List.setIfInBounds_toArray, List.set_cons_zero, List.set_cons_succ, List.getElem_toArray, List.getElem_cons_zero, List.getElem_cons_succ]
        refine wpAnyH_take (i := 3) (v := ?_) rfl (by kernel_rfl) (by kernel_rfl) (by kernel_rfl) (fun _ _ _ h => h) (Or.inl ⟨by rfl, ?_⟩) (by assumption) ?_
        rotate_left
        · intro w hSw; go_simp; try with_reducible rfl
        simp only [Act.put, List.setIfInBounds_toArray, List.set_cons_zero, List.set_cons_succ, List.getElem_toArray, List.getElem_cons_zero, List.getElem_cons_succ]
        refine held_step (i := 4) rfl (by kernel_rfl) (by rfl) (fun K hK => ?_)
        go_simp
        refine hK.out _ _ (by assumption) (fun hHeld => ?_)
        clear hK K
        try simp only [Act.put, List.setIfInBounds_toArray, List.set_cons_zero, List.set_cons_succ, List.getElem_toArray, List.getElem_cons_zero, List.getElem_cons_succ]
        refine wpAnyH_take (i := 8) (v := ?_) rfl (by kernel_rfl) (by kernel_rfl) (by kernel_rfl) (fun _ _ _ h => h) (Or.inl ⟨by rfl, ?_⟩) (by assumption) ?_
        rotate_left
        · intro w hSw; go_simp; try with_reducible rfl
        simp only [Act.put, List.setIfInBounds_toArray, List.set_cons_zero, List.set_cons_succ, List.getElem_toArray, List.getElem_cons_zero, List.getElem_cons_succ]
        refine wpAnyH_take (i := 9) (v := ?_) rfl (by kernel_rfl) (by kernel_rfl) (by kernel_rfl) (fun _ _ _ h => h) (Or.inl ⟨by rfl, ?_⟩) (by assumption) ?_
        rotate_left
        · intro w hSw; go_simp; try with_reducible rfl
        simp only [Act.put, List.setIfInBounds_toArray, List.set_cons_zero, List.set_cons_succ, List.getElem_toArray, List.getElem_cons_zero, List.getElem_cons_succ]
        refine wpAnyH_done (by kernel_rfl) ?_ _
        go_wp2_with fail
        go_meet
        exact ⟨by rw [← str_app]; rfl, Lib.hid (by assumption)⟩
    · have hov : ¬ 9223372036854775807 < 4 + r1.length := by omega
      refine wp_region_held_drew (S := fun W => ShB w W (.int .i64 1) (.slice p1 L.length c1) (.int .i64 P) (.int .i64 B) (.slice p2 R.length c2) (.bool C)) (by kernel_rfl) H0.drew (fun hHeld => ?_)
      refine wpAnyH_take (i := 1) (v := ?_) rfl (by kernel_rfl) (by kernel_rfl) (by kernel_rfl) (fun _ _ _ h => h) (Or.inl ⟨by rfl, ?_⟩) (by assumption) ?_
      rotate_left
      · intro w hSw; go_simp; try with_reducible rfl
      simp only [Act.put, List.setIfInBounds_toArray, List.set_cons_zero, List.set_cons_succ, List.getElem_toArray, List.getElem_cons_zero, List.getElem_cons_succ]
      refine wpAnyH_take (i := 2) (v := ?_) rfl (by kernel_rfl) (by kernel_rfl) (by kernel_rfl) (fun _ _ _ h => h) (Or.inl ⟨by rfl, ?_⟩) (by assumption) ?_
      rotate_left
      · intro w h; have hf := h.cs.1; go_simp; try with_reducible rfl
      simp only [Act.put, List.setIfInBounds_toArray, List.set_cons_zero, List.set_cons_succ, List.getElem_toArray, List.getElem_cons_zero, List.getElem_cons_succ]
      refine wpAnyH_take (i := 5) (v := ?_) rfl (by kernel_rfl) (by kernel_rfl) (by kernel_rfl) (fun _ _ _ h => h) (Or.inl ⟨by rfl, ?_⟩) (by assumption) ?_
      rotate_left
      · intro w hSw; go_simp; try with_reducible rfl
      simp only [Act.put, List.setIfInBounds_toArray, List.set_cons_zero, List.set_cons_succ, List.getElem_toArray, List.getElem_cons_zero, List.getElem_cons_succ]
      refine wpAnyH_take (i := 6) (v := ?_) rfl (by kernel_rfl) (by kernel_rfl) (by kernel_rfl) (fun _ _ _ h => h) (Or.inl ⟨by rfl, ?_⟩) (by assumption) ?_
      rotate_left
      · intro w h; have hf := h.cs.2.1; go_simp; try with_reducible rfl
      simp only [Act.put, List.setIfInBounds_toArray, List.set_cons_zero, List.set_cons_succ, List.getElem_toArray, List.getElem_cons_zero, List.getElem_cons_succ]
      refine held_two (i := 0) (j := 7) rfl rfl (by kernel_rfl) (by rfl) (by rfl) (fun K hK => ?_) (fun K hK => ?_)
      · go_simp
        refine hK.out _ _ (ShB.step (by assumption) (belowA _ _)) (fun hHeld => ?_)
        clear hK K
        try simp only [Act.put, List.setIfInBounds_toArray, List.set_cons_zero, List.set_cons_succ, List.getElem_toArray, List.getElem_cons_zero, List.getElem_cons_succ]
        refine wpAnyH_take (i := 3) (v := ?_) rfl (by kernel_rfl) (by kernel_rfl) (by kernel_rfl) (fun _ _ _ h => h) (Or.inl ⟨by rfl, ?_⟩) (by assumption) ?_
        rotate_left
        · intro w hSw; go_simp; try with_reducible rfl
        simp only [Act.put, List.setIfInBounds_toArray, List.set_cons_zero, List.set_cons_succ, List.getElem_toArray, List.getElem_cons_zero, List.getElem_cons_succ]
        refine held_two (i := 4) (j := 7) rfl rfl (by kernel_rfl) (by rfl) (by rfl) (fun K hK => ?_) (fun K hK => ?_)
        · go_simp
          refine hK.out _ _ (by assumption) (fun hHeld => ?_)
          clear hK K
          try simp only [Act.put, List.setIfInBounds_toArray, List.set_cons_zero, List.set_cons_succ, List.getElem_toArray, List.getElem_cons_zero, List.getElem_cons_succ]
          refine held_step (i := 7) rfl (by kernel_rfl) (by rfl) (fun K hK => ?_)
          go_simp
          refine (HRL.out _ (ShB.bel (by assumption))).mono ?_; rintro e w7 ⟨rfl, hw7⟩; subst hw7
          go_wp2_with fail
          refine hK.out _ _ (by assumption) (fun hHeld => ?_)
          clear hK K
          try simp only [Act.put, List.setIfInBounds_toArray, List.set_cons_zero, List.set_cons_succ, List.getElem_toArray, List.getElem_cons_zero, List.getElem_cons_succ]
          refine wpAnyH_take (i := 8) (v := ?_) rfl (by kernel_rfl) (by kernel_rfl) (by kernel_rfl) (fun _ _ _ h => h) (Or.inl ⟨by rfl, ?_⟩) (by assumption) ?_
          rotate_left
          · intro w hSw; go_simp; try with_reducible rfl
          simp only [Act.put, List.setIfInBounds_toArray, List.set_cons_zero, List.set_cons_succ, List.getElem_toArray, List.getElem_cons_zero, List.getElem_cons_succ]
          refine wpAnyH_take (i := 9) (v := ?_) rfl (by kernel_rfl) (by kernel_rfl) (by kernel_rfl) (fun _ _ _ h => h) (Or.inl ⟨by rfl, ?_⟩) (by assumption) ?_
          rotate_left
          · intro w hSw; go_simp; try with_reducible rfl
          simp only [Act.put, List.setIfInBounds_toArray, List.set_cons_zero, List.set_cons_succ, List.getElem_toArray, List.getElem_cons_zero, List.getElem_cons_succ]
          refine wpAnyH_done (by kernel_rfl) ?_ _
          go_wp2_with fail
          go_meet
          exact ⟨by rw [← str_app]; rfl, Lib.hid (by assumption)⟩
        · go_simp
          refine (HRL.out _ (ShB.bel (by assumption))).mono ?_; rintro e w7 ⟨rfl, hw7⟩; subst hw7
          go_wp2_with fail
          refine hK.out _ _ (by assumption) (fun hHeld => ?_)
          clear hK K
          try simp only [Act.put, List.setIfInBounds_toArray, List.set_cons_zero, List.set_cons_succ, List.getElem_toArray, List.getElem_cons_zero, List.getElem_cons_succ]
          refine held_step (i := 4) rfl (by kernel_rfl) (by rfl) (fun K hK => ?_)
          go_simp
          refine hK.out _ _ (by assumption) (fun hHeld => ?_)
          clear hK K
          try simp only [Act.put, List.setIfInBounds_toArray, List.set_cons_zero, List.set_cons_succ, List.getElem_toArray, List.getElem_cons_zero, List.getElem_cons_succ]
          refine wpAnyH_take (i := 8) (v := ?_) rfl (by kernel_rfl) (by kernel_rfl) (by kernel_rfl) (fun _ _ _ h => h) (Or.inl ⟨by rfl, ?_⟩) (by assumption) ?_
          rotate_left
          · intro w hSw; go_simp; try with_reducible rfl
          simp only [Act.put, List.setIfInBounds_toArray, List.set_cons_zero, List.set_cons_succ, List.getElem_toArray, List.getElem_cons_zero, List.getElem_cons_succ]
          refine wpAnyH_take (i := 9) (v := ?_) rfl (by kernel_rfl) (by kernel_rfl) (by kernel_rfl) (fun _ _ _ h => h) (Or.inl ⟨by rfl, ?_⟩) (by assumption) ?_
          rotate_left
          · intro w hSw; go_simp; try with_reducible rfl
          simp only [Act.put, List.setIfInBounds_toArray, List.set_cons_zero, List.set_cons_succ, List.getElem_toArray, List.getElem_cons_zero, List.getElem_cons_succ]
          refine wpAnyH_done (by kernel_rfl) ?_ _
          go_wp2_with fail
          go_meet
          exact ⟨by rw [← str_app]; rfl, Lib.hid (by assumption)⟩
      · go_simp
        refine (HRL.out _ (ShB.bel (by assumption))).mono ?_; rintro e w7 ⟨rfl, hw7⟩; subst hw7
        go_wp2_with fail
        refine hK.out _ _ (by assumption) (fun hHeld => ?_)
        clear hK K
        try simp only [Act.put, List.setIfInBounds_toArray, List.set_cons_zero, List.set_cons_succ, List.getElem_toArray, List.getElem_cons_zero, List.getElem_cons_succ]
        refine held_step (i := 0) rfl (by kernel_rfl) (by rfl) (fun K hK => ?_)
        go_simp
        refine hK.out _ _ (ShB.step (by assumption) (belowA _ _)) (fun hHeld => ?_)
        clear hK K
        try simp only [Act.put, List.setIfInBounds_toArray, List.set_cons_zero, List.set_cons_succ, List.getElem_toArray, List.getElem_cons_zero, List.getElem_cons_succ]
        refine wpAnyH_take (i := 3) (v := ?_) rfl (by kernel_rfl) (by kernel_rfl) (by kernel_rfl) (fun _ _ _ h => h) (Or.inl ⟨by rfl, ?_⟩) (by assumption) ?_
        rotate_left
        · intro w hSw; go_simp; try with_reducible rfl
        simp only [Act.put, List.setIfInBounds_toArray, List.set_cons_zero, List.set_cons_succ, List.getElem_toArray, List.getElem_cons_zero, List.getElem_cons_succ]
        refine held_step (i := 4) rfl (by kernel_rfl) (by rfl) (fun K hK => ?_)
        go_simp
        refine hK.out _ _ (by assumption) (fun hHeld => ?_)
        clear hK K
        try simp only [Act.put, List.setIfInBounds_toArray, List.set_cons_zero, List.set_cons_succ, List.getElem_toArray, List.getElem_cons_zero, List.getElem_cons_succ]
        refine wpAnyH_take (i := 8) (v := ?_) rfl (by kernel_rfl) (by kernel_rfl) (by kernel_rfl) (fun _ _ _ h => h) (Or.inl ⟨by rfl, ?_⟩) (by assumption) ?_
        rotate_left
        · intro w hSw; go_simp; try with_reducible rfl
        simp only [Act.put, List.setIfInBounds_toArray, List.set_cons_zero, List.set_cons_succ, List.getElem_toArray, List.getElem_cons_zero, List.getElem_cons_succ]
        refine wpAnyH_take (i := 9) (v := ?_) rfl (by kernel_rfl) (by kernel_rfl) (by kernel_rfl) (fun _ _ _ h => h) (Or.inl ⟨by rfl, ?_⟩) (by assumption) ?_
        rotate_left
        · intro w hSw; go_simp; try with_reducible rfl
        simp only [Act.put, List.setIfInBounds_toArray, List.set_cons_zero, List.set_cons_succ, List.getElem_toArray, List.getElem_cons_zero, List.getElem_cons_succ]
        refine wpAnyH_done (by kernel_rfl) ?_ _
        go_wp2_with fail
        go_meet
        exact ⟨by rw [← str_app]; rfl, Lib.hid (by assumption)⟩
    · have hov : ¬ 9223372036854775807 < 3 + r1.length := by omega
      refine wp_region_held_drew (S := fun W => ShB w W (.int .i64 2) (.slice p1 L.length c1) (.int .i64 P) (.int .i64 B) (.slice p2 R.length c2) (.bool C)) (by kernel_rfl) H0.drew (fun hHeld => ?_)
      refine wpAnyH_take (i := 1) (v := ?_) rfl (by kernel_rfl) (by kernel_rfl) (by kernel_rfl) (fun _ _ _ h => h) (Or.inl ⟨by rfl, ?_⟩) (by assumption) ?_
      rotate_left
      · intro w hSw; go_simp; try with_reducible rfl
      simp only [Act.put, List.setIfInBounds_toArray, List.set_cons_zero, List.set_cons_succ, List.getElem_toArray, List.getElem_cons_zero, List.getElem_cons_succ]
      refine wpAnyH_take (i := 2) (v := ?_) rfl (by kernel_rfl) (by kernel_rfl) (by kernel_rfl) (fun _ _ _ h => h) (Or.inl ⟨by rfl, ?_⟩) (by assumption) ?_
      rotate_left
      · intro w h; have hf := h.cs.1; go_simp; try with_reducible rfl
      simp only [Act.put, List.setIfInBounds_toArray, List.set_cons_zero, List.set_cons_succ, List.getElem_toArray, List.getElem_cons_zero, List.getElem_cons_succ]
      refine wpAnyH_take (i := 5) (v := ?_) rfl (by kernel_rfl) (by kernel_rfl) (by kernel_rfl) (fun _ _ _ h => h) (Or.inl ⟨by rfl, ?_⟩) (by assumption) ?_
      rotate_left
      · intro w hSw; go_simp; try with_reducible rfl
      simp only [Act.put, List.setIfInBounds_toArray, List.set_cons_zero, List.set_cons_succ, List.getElem_toArray, List.getElem_cons_zero, List.getElem_cons_succ]
      refine wpAnyH_take (i := 6) (v := ?_) rfl (by kernel_rfl) (by kernel_rfl) (by kernel_rfl) (fun _ _ _ h => h) (Or.inl ⟨by rfl, ?_⟩) (by assumption) ?_
      rotate_left
      · intro w h; have hf := h.cs.2.1; go_simp; try with_reducible rfl
      simp only [Act.put, List.setIfInBounds_toArray, List.set_cons_zero, List.set_cons_succ, List.getElem_toArray, List.getElem_cons_zero, List.getElem_cons_succ]
      refine held_two (i := 0) (j := 7) rfl rfl (by kernel_rfl) (by rfl) (by rfl) (fun K hK => ?_) (fun K hK => ?_)
      · go_simp
        refine hK.out _ _ (ShB.step (by assumption) (belowA _ _)) (fun hHeld => ?_)
        clear hK K
        try simp only [Act.put, List.setIfInBounds_toArray, List.set_cons_zero, List.set_cons_succ, List.getElem_toArray, List.getElem_cons_zero, List.getElem_cons_succ]
        refine wpAnyH_take (i := 3) (v := ?_) rfl (by kernel_rfl) (by kernel_rfl) (by kernel_rfl) (fun _ _ _ h => h) (Or.inl ⟨by rfl, ?_⟩) (by assumption) ?_
        rotate_left
        · intro w hSw; go_simp; try with_reducible rfl
        simp only [Act.put, List.setIfInBounds_toArray, List.set_cons_zero, List.set_cons_succ, List.getElem_toArray, List.getElem_cons_zero, List.getElem_cons_succ]
        refine held_two (i := 4) (j := 7) rfl rfl (by kernel_rfl) (by rfl) (by rfl) (fun K hK => ?_) (fun K hK => ?_)
        · go_simp
          refine hK.out _ _ (by assumption) (fun hHeld => ?_)
          clear hK K
          try simp only [Act.put, List.setIfInBounds_toArray, List.set_cons_zero, List.set_cons_succ, List.getElem_toArray, List.getElem_cons_zero, List.getElem_cons_succ]
          refine held_step (i := 7) rfl (by kernel_rfl) (by rfl) (fun K hK => ?_)
          go_simp
          refine (HRL.out _ (ShB.bel (by assumption))).mono ?_; rintro e w7 ⟨rfl, hw7⟩; subst hw7
          go_wp2_with fail
          refine hK.out _ _ (by assumption) (fun hHeld => ?_)
          clear hK K
          try simp only [Act.put, List.setIfInBounds_toArray, List.set_cons_zero, List.set_cons_succ, List.getElem_toArray, List.getElem_cons_zero, List.getElem_cons_succ]
          refine wpAnyH_take (i := 8) (v := ?_) rfl (by kernel_rfl) (by kernel_rfl) (by kernel_rfl) (fun _ _ _ h => h) (Or.inl ⟨by rfl, ?_⟩) (by assumption) ?_
          rotate_left
          · intro w hSw; go_simp; try with_reducible rfl
          simp only [Act.put, List.setIfInBounds_toArray, List.set_cons_zero, List.set_cons_succ, List.getElem_toArray, List.getElem_cons_zero, List.getElem_cons_succ]
          refine wpAnyH_take (i := 9) (v := ?_) rfl (by kernel_rfl) (by kernel_rfl) (by kernel_rfl) (fun _ _ _ h => h) (Or.inl ⟨by rfl, ?_⟩) (by assumption) ?_
          rotate_left
          · intro w hSw; go_simp; try with_reducible rfl
          simp only [Act.put, List.setIfInBounds_toArray, List.set_cons_zero, List.set_cons_succ, List.getElem_toArray, List.getElem_cons_zero, List.getElem_cons_succ]
          refine wpAnyH_done (by kernel_rfl) ?_ _
          go_wp2_with fail
          go_meet
          exact ⟨by rw [← str_app]; rfl, Lib.hid (by assumption)⟩
        · go_simp
          refine (HRL.out _ (ShB.bel (by assumption))).mono ?_; rintro e w7 ⟨rfl, hw7⟩; subst hw7
          go_wp2_with fail
          refine hK.out _ _ (by assumption) (fun hHeld => ?_)
          clear hK K
          try simp only [Act.put, List.setIfInBounds_toArray, List.set_cons_zero, List.set_cons_succ, List.getElem_toArray, List.getElem_cons_zero, List.getElem_cons_succ]
          refine held_step (i := 4) rfl (by kernel_rfl) (by rfl) (fun K hK => ?_)
          go_simp
          refine hK.out _ _ (by assumption) (fun hHeld => ?_)
          clear hK K
          try simp only [Act.put, List.setIfInBounds_toArray, List.set_cons_zero, List.set_cons_succ, List.getElem_toArray, List.getElem_cons_zero, List.getElem_cons_succ]
          refine wpAnyH_take (i := 8) (v := ?_) rfl (by kernel_rfl) (by kernel_rfl) (by kernel_rfl) (fun _ _ _ h => h) (Or.inl ⟨by rfl, ?_⟩) (by assumption) ?_
          rotate_left
          · intro w hSw; go_simp; try with_reducible rfl
          simp only [Act.put, List.setIfInBounds_toArray, List.set_cons_zero, List.set_cons_succ, List.getElem_toArray, List.getElem_cons_zero, List.getElem_cons_succ]
          refine wpAnyH_take (i := 9) (v := ?_) rfl (by kernel_rfl) (by kernel_rfl) (by kernel_rfl) (fun _ _ _ h => h) (Or.inl ⟨by rfl, ?_⟩) (by assumption) ?_
          rotate_left
          · intro w hSw; go_simp; try with_reducible rfl
          simp only [Act.put, List.setIfInBounds_toArray, List.set_cons_zero, List.set_cons_succ, List.getElem_toArray, List.getElem_cons_zero, List.getElem_cons_succ]
          refine wpAnyH_done (by kernel_rfl) ?_ _
          go_wp2_with fail
          go_meet
          exact ⟨by rw [← str_app]; rfl, Lib.hid (by assumption)⟩
      · go_simp
        refine (HRL.out _ (ShB.bel (by assumption))).mono ?_; rintro e w7 ⟨rfl, hw7⟩; subst hw7
        go_wp2_with fail
        refine hK.out _ _ (by assumption) (fun hHeld => ?_)
        clear hK K
        try simp only [Act.put, List.setIfInBounds_toArray, List.set_cons_zero, List.set_cons_succ, List.getElem_toArray, List.getElem_cons_zero, List.getElem_cons_succ]
        refine held_step (i := 0) rfl (by kernel_rfl) (by rfl) (fun K hK => ?_)
        go_simp
        refine hK.out _ _ (ShB.step (by assumption) (belowA _ _)) (fun hHeld => ?_)
        clear hK K
        try simp only [Act.put, List.setIfInBounds_toArray, List.set_cons_zero, List.set_cons_succ, List.getElem_toArray, List.getElem_cons_zero, List.getElem_cons_succ]
        refine wpAnyH_take (i := 3) (v := ?_) rfl (by kernel_rfl) (by kernel_rfl) (by kernel_rfl) (fun _ _ _ h => h) (Or.inl ⟨by rfl, ?_⟩) (by assumption) ?_
        rotate_left
        · intro w hSw; go_simp; try with_reducible rfl
        simp only [Act.put, List.setIfInBounds_toArray, List.set_cons_zero, List.set_cons_succ, List.getElem_toArray, List.getElem_cons_zero, List.getElem_cons_succ]
        refine held_step (i := 4) rfl (by kernel_rfl) (by rfl) (fun K hK => ?_)
        go_simp
        refine hK.out _ _ (by assumption) (fun hHeld => ?_)
        clear hK K
        try simp only [Act.put, List.setIfInBounds_toArray, List.set_cons_zero, List.set_cons_succ, List.getElem_toArray, List.getElem_cons_zero, List.getElem_cons_succ]
        refine wpAnyH_take (i := 8) (v := ?_) rfl (by kernel_rfl) (by kernel_rfl) (by kernel_rfl) (fun _ _ _ h => h) (Or.inl ⟨by rfl, ?_⟩) (by assumption) ?_
        rotate_left
        · intro w hSw; go_simp; try with_reducible rfl
        simp only [Act.put, List.setIfInBounds_toArray, List.set_cons_zero, List.set_cons_succ, List.getElem_toArray, List.getElem_cons_zero, List.getElem_cons_succ]
        refine wpAnyH_take (i := 9) (v := ?_) rfl (by kernel_rfl) (by kernel_rfl) (by kernel_rfl) (fun _ _ _ h => h) (Or.inl ⟨by rfl, ?_⟩) (by assumption) ?_
        rotate_left
        · intro w hSw; go_simp; try with_reducible rfl
        simp only [Act.put, List.setIfInBounds_toArray, List.set_cons_zero, List.set_cons_succ, List.getElem_toArray, List.getElem_cons_zero, List.getElem_cons_succ]
        refine wpAnyH_done (by kernel_rfl) ?_ _
        go_wp2_with fail
        go_meet
        exact ⟨by rw [← str_app]; rfl, Lib.hid (by assumption)⟩
    · have hov : ¬ 9223372036854775807 < 4 + r1.length := by omega
      refine wp_region_held_drew (S := fun W => ShB w W (.int .i64 3) (.slice p1 L.length c1) (.int .i64 P) (.int .i64 B) (.slice p2 R.length c2) (.bool C)) (by kernel_rfl) H0.drew (fun hHeld => ?_)
      refine wpAnyH_take (i := 1) (v := ?_) rfl (by kernel_rfl) (by kernel_rfl) (by kernel_rfl) (fun _ _ _ h => h) (Or.inl ⟨by rfl, ?_⟩) (by assumption) ?_
      rotate_left
      · intro w hSw; go_simp; try with_reducible rfl
      simp only [Act.put, List.setIfInBounds_toArray, List.set_cons_zero, List.set_cons_succ, List.getElem_toArray, List.getElem_cons_zero, List.getElem_cons_succ]
      refine wpAnyH_take (i := 2) (v := ?_) rfl (by kernel_rfl) (by kernel_rfl) (by kernel_rfl) (fun _ _ _ h => h) (Or.inl ⟨by rfl, ?_⟩) (by assumption) ?_
      rotate_left
      · intro w h; have hf := h.cs.1; go_simp; try with_reducible rfl
      simp only [Act.put, List.setIfInBounds_toArray, List.set_cons_zero, List.set_cons_succ, List.getElem_toArray, List.getElem_cons_zero, List.getElem_cons_succ]
      refine wpAnyH_take (i := 5) (v := ?_) rfl (by kernel_rfl) (by kernel_rfl) (by kernel_rfl) (fun _ _ _ h => h) (Or.inl ⟨by rfl, ?_⟩) (by assumption) ?_
      rotate_left
      · intro w hSw; go_simp; try with_reducible rfl
      simp only [Act.put, List.setIfInBounds_toArray, List.set_cons_zero, List.set_cons_succ, List.getElem_toArray, List.getElem_cons_zero, List.getElem_cons_succ]
      refine wpAnyH_take (i := 6) (v := ?_) rfl (by kernel_rfl) (by kernel_rfl) (by kernel_rfl) (fun _ _ _ h => h) (Or.inl ⟨by rfl, ?_⟩) (by assumption) ?_
      rotate_left
      · intro w h; have hf := h.cs.2.1; go_simp; try with_reducible rfl
      simp only [Act.put, List.setIfInBounds_toArray, List.set_cons_zero, List.set_cons_succ, List.getElem_toArray, List.getElem_cons_zero, List.getElem_cons_succ]
      refine held_two (i := 0) (j := 7) rfl rfl (by kernel_rfl) (by rfl) (by rfl) (fun K hK => ?_) (fun K hK => ?_)
      · go_simp
        refine hK.out _ _ (ShB.step (by assumption) (belowA _ _)) (fun hHeld => ?_)
        clear hK K
        try simp only [Act.put, List.setIfInBounds_toArray, List.set_cons_zero, List.set_cons_succ, List.getElem_toArray, List.getElem_cons_zero, List.getElem_cons_succ]
        refine wpAnyH_take (i := 3) (v := ?_) rfl (by kernel_rfl) (by kernel_rfl) (by kernel_rfl) (fun _ _ _ h => h) (Or.inl ⟨by rfl, ?_⟩) (by assumption) ?_
        rotate_left
        · intro w hSw; go_simp; try with_reducible rfl
        simp only [Act.put, List.setIfInBounds_toArray, List.set_cons_zero, List.set_cons_succ, List.getElem_toArray, List.getElem_cons_zero, List.getElem_cons_succ]
        refine held_two (i := 4) (j := 7) rfl rfl (by kernel_rfl) (by rfl) (by rfl) (fun K hK => ?_) (fun K hK => ?_)
        · go_simp
          refine hK.out _ _ (by assumption) (fun hHeld => ?_)
          clear hK K
          try simp only [Act.put, List.setIfInBounds_toArray, List.set_cons_zero, List.set_cons_succ, List.getElem_toArray, List.getElem_cons_zero, List.getElem_cons_succ]
          refine held_step (i := 7) rfl (by kernel_rfl) (by rfl) (fun K hK => ?_)
          go_simp
          refine (HRL.out _ (ShB.bel (by assumption))).mono ?_; rintro e w7 ⟨rfl, hw7⟩; subst hw7
          go_wp2_with fail
          refine hK.out _ _ (by assumption) (fun hHeld => ?_)
          clear hK K
          try simp only [Act.put, List.setIfInBounds_toArray, List.set_cons_zero, List.set_cons_succ, List.getElem_toArray, List.getElem_cons_zero, List.getElem_cons_succ]
          refine wpAnyH_take (i := 8) (v := ?_) rfl (by kernel_rfl) (by kernel_rfl) (by kernel_rfl) (fun _ _ _ h => h) (Or.inl ⟨by rfl, ?_⟩) (by assumption) ?_
          rotate_left
          · intro w hSw; go_simp; try with_reducible rfl
          simp only [Act.put, List.setIfInBounds_toArray, List.set_cons_zero, List.set_cons_succ, List.getElem_toArray, List.getElem_cons_zero, List.getElem_cons_succ]
          refine wpAnyH_take (i := 9) (v := ?_) rfl (by kernel_rfl) (by kernel_rfl) (by kernel_rfl) (fun _ _ _ h => h) (Or.inl ⟨by rfl, ?_⟩) (by assumption) ?_
          rotate_left
          · intro w hSw; go_simp; try with_reducible rfl
          simp only [Act.put, List.setIfInBounds_toArray, List.set_cons_zero, List.set_cons_succ, List.getElem_toArray, List.getElem_cons_zero, List.getElem_cons_succ]
          refine wpAnyH_done (by kernel_rfl) ?_ _
          go_wp2_with fail
          go_meet
          exact ⟨by rw [← str_app]; rfl, Lib.hid (by assumption)⟩
        · go_simp
          refine (HRL.out _ (ShB.bel (by assumption))).mono ?_; rintro e w7 ⟨rfl, hw7⟩; subst hw7
          go_wp2_with fail
          refine hK.out _ _ (by assumption) (fun hHeld => ?_)
          clear hK K
          try simp only [Act.put, List.setIfInBounds_toArray, List.set_cons_zero, List.set_cons_succ, List.getElem_toArray, List.getElem_cons_zero, List.getElem_cons_succ]
          refine held_step (i := 4) rfl (by kernel_rfl) (by rfl) (fun K hK => ?_)
          go_simp
          refine hK.out _ _ (by assumption) (fun hHeld => ?_)
          clear hK K
          try simp only [Act.put, List.setIfInBounds_toArray, List.set_cons_zero, List.set_cons_succ, List.getElem_toArray, List.getElem_cons_zero, List.getElem_cons_succ]
          refine wpAnyH_take (i := 8) (v := ?_) rfl (by kernel_rfl) (by kernel_rfl) (by kernel_rfl) (fun _ _ _ h => h) (Or.inl ⟨by rfl, ?_⟩) (by assumption) ?_
          rotate_left
          · intro w hSw; go_simp; try with_reducible rfl
          simp only [Act.put, List.setIfInBounds_toArray, List.set_cons_zero, List.set_cons_succ, List.getElem_toArray, List.getElem_cons_zero, List.getElem_cons_succ]
          refine wpAnyH_take (i := 9) (v := ?_) rfl (by kernel_rfl) (by kernel_rfl) (by kernel_rfl) (fun _ _ _ h => h) (Or.inl ⟨by rfl, ?_⟩) (by assumption) ?_
          rotate_left
          · intro w hSw; go_simp; try with_reducible rfl
          simp only [Act.put, List.setIfInBounds_toArray, List.set_cons_zero, List.set_cons_succ, List.getElem_toArray, List.getElem_cons_zero, List.getElem_cons_succ]
          refine wpAnyH_done (by kernel_rfl) ?_ _
          go_wp2_with fail
          go_meet
          exact ⟨by rw [← str_app]; rfl, Lib.hid (by assumption)⟩
      · go_simp
        refine (HRL.out _ (ShB.bel (by assumption))).mono ?_; rintro e w7 ⟨rfl, hw7⟩; subst hw7
        go_wp2_with fail
        refine hK.out _ _ (by assumption) (fun hHeld => ?_)
        clear hK K
        try simp only [Act.put, List.setIfInBounds_toArray, List.set_cons_zero, List.set_cons_succ, List.getElem_toArray, List.getElem_cons_zero, List.getElem_cons_succ]
        refine held_step (i := 0) rfl (by kernel_rfl) (by rfl) (fun K hK => ?_)
        go_simp
        refine hK.out _ _ (ShB.step (by assumption) (belowA _ _)) (fun hHeld => ?_)
        clear hK K
        try simp only [Act.put, List.setIfInBounds_toArray, List.set_cons_zero, List.set_cons_succ, List.getElem_toArray, List.getElem_cons_zero, List.getElem_cons_succ]
        refine wpAnyH_take (i := 3) (v := ?_) rfl (by kernel_rfl) (by kernel_rfl) (by kernel_rfl) (fun _ _ _ h => h) (Or.inl ⟨by rfl, ?_⟩) (by assumption) ?_
        rotate_left
        · intro w hSw; go_simp; try with_reducible rfl
        simp only [Act.put, List.setIfInBounds_toArray, List.set_cons_zero, List.set_cons_succ, List.getElem_toArray, List.getElem_cons_zero, List.getElem_cons_succ]
        refine held_step (i := 4) rfl (by kernel_rfl) (by rfl) (fun K hK => ?_)
        go_simp
        refine hK.out _ _ (by assumption) (fun hHeld => ?_)
        clear hK K
        try simp only [Act.put, List.setIfInBounds_toArray, List.set_cons_zero, List.set_cons_succ, List.getElem_toArray, List.getElem_cons_zero, List.getElem_cons_succ]
        refine wpAnyH_take (i := 8) (v := ?_) rfl (by kernel_rfl) (by kernel_rfl) (by kernel_rfl) (fun _ _ _ h => h) (Or.inl ⟨by rfl, ?_⟩) (by assumption) ?_
        rotate_left
        · intro w hSw; go_simp; try with_reducible rfl
        simp only [Act.put, List.setIfInBounds_toArray, List.set_cons_zero, List.set_cons_succ, List.getElem_toArray, List.getElem_cons_zero, List.getElem_cons_succ]
        refine wpAnyH_take (i := 9) (v := ?_) rfl (by kernel_rfl) (by kernel_rfl) (by kernel_rfl) (fun _ _ _ h => h) (Or.inl ⟨by rfl, ?_⟩) (by assumption) ?_
        rotate_left
        · intro w hSw; go_simp; try with_reducible rfl
        simp only [Act.put, List.setIfInBounds_toArray, List.set_cons_zero, List.set_cons_succ, List.getElem_toArray, List.getElem_cons_zero, List.getElem_cons_succ]
        refine wpAnyH_done (by kernel_rfl) ?_ _
        go_wp2_with fail
        go_meet
        exact ⟨by rw [← str_app]; rfl, Lib.hid (by assumption)⟩
  case rest =>
    obtain ⟨rfl, H1⟩ := hcut
    have how : (Hp.opW op).length ≤ 4 := by unfold Hp.opW; (repeat' split) <;> simp [Hp.wPush, Hp.wSwap, Hp.wPop, Hp.wHere]
    have ht1 : (Hp.opW op ++ r1).length ≤ 324 := by rw [List.length_append]; omega
    generalize Hp.opW op ++ r1 = t1 at *
    obtain ⟨d0, d1, d2, d3, d4, d5⟩ := H1.out.cs
    have hz1 : (str t1).size = t1.length := str_size _
    go_upto_if 15 with fail
    go_cut [3] from 15 to 39 (fun s3 wx => s3 = .string (str (t1 ++ (if op ≠ 3 then [32, 112, 111, 114, 116, 32] ++ dP else []))) ∧ Hid (ShB w wx (.int .i64 op) (.slice p1 L.length c1) (.int .i64 P) (.int .i64 B) (.slice p2 R.length c2) (.bool C)))
    case first =>
      by_cases ho : op = 3
      · subst ho
        go_wp2_with fail
        go_meet
        rw [if_neg (by simp), List.append_nil]
        exact ⟨rfl, H1⟩
      · have hne : (op != 3) = true := by simpa using ho
        have hov1 : ¬ 9223372036854775807 < 6 + dP.length := by omega
        have hov2 : ¬ 9223372036854775807 < t1.length + (6 + dP.length) := by omega
        have HO := Lib.hid ho
        clear ho
        go_wp2_with fail
        refine (HDP.out _).mono ?_
        rintro e w2 ⟨rfl, hw2⟩
        subst hw2
        go_wp2_with fail
        go_meet
        rw [if_pos HO.out]
        exact ⟨by rw [← str_app, ← str_app]; rfl, H1⟩
    case rest =>
      obtain ⟨rfl, H2⟩ := hcut
      have ht2 : (t1 ++ (if op ≠ 3 then [32, 112, 111, 114, 116, 32] ++ dP else [])).length ≤ 400 := by
        rw [List.length_append]; split <;> simp <;> omega
      generalize t1 ++ (if op ≠ 3 then [32, 112, 111, 114, 116, 32] ++ dP else []) = t2 at *
      clear d0 d1 d2 d3 d4 d5 H1 hz1 ht1
      obtain ⟨d0, d1, d2, d3, d4, d5⟩ := H2.out.cs
      have hz2 : (str t2).size = t2.length := str_size _
      go_upto_if 24 with fail
      go_cut [3] from 24 to 39 (fun s3 wx => s3 = .string (str (t2 ++ (if B ≠ -1 then [32, 98, 97, 99, 107, 117, 112, 32] ++ dB ++ r2 else []))) ∧ Hid (ShB w wx (.int .i64 op) (.slice p1 L.length c1) (.int .i64 P) (.int .i64 B) (.slice p2 R.length c2) (.bool C)))
      case first =>
        by_cases ho : B = -1
        · subst ho
          go_wp2_with fail
          go_meet
          rw [if_neg (by simp), List.append_nil]
          exact ⟨rfl, H2⟩
        · have hne : (B != -1) = true := by simpa using ho
          have hov1 : ¬ 9223372036854775807 < 8 + dB.length := by omega
          have hov2 : ¬ 9223372036854775807 < 8 + dB.length + r2.length := by omega
          have hov3 : ¬ 9223372036854775807 < t2.length + (8 + dB.length + r2.length) := by omega
          have HO := Lib.hid ho
          have HDB2 := Lib.hid (HDB.out ho)
          have HRR2 : Hid (∀ n, Below w.heap.size w (wc.drewN n)) := Lib.hid fun n => below_drewN H2.out.bel n
          clear ho
          go_wp2_with fail
          go_quiet ((first | (go_at_call 26; exact Calls.quiet_of_same (HDB2.out _)) | (go_at_call 25; exact Calls.quiet_of_same (HRR.out _ (HRR2.out _)))))
          go_wp2_with fail
          go_meet
          rw [if_pos HO.out]
          exact ⟨by rw [← str_app, ← str_app, ← str_app]; rfl, Lib.hid (H2.out.step (below_drewN (Below.refl _ _) nq))⟩
      case rest =>
        obtain ⟨rfl, H3⟩ := hcut
        have ht3 : (t2 ++ (if B ≠ -1 then [32, 98, 97, 99, 107, 117, 112, 32] ++ dB ++ r2 else [])).length ≤ 1000 := by
          rw [List.length_append]; split <;> simp <;> omega
        generalize t2 ++ (if B ≠ -1 then [32, 98, 97, 99, 107, 117, 112, 32] ++ dB ++ r2 else []) = t3 at *
        clear d0 d1 d2 d3 d4 d5 H2 hz2 ht2
        obtain ⟨d0, d1, d2, d3, d4, d5⟩ := H3.out.cs
        have hz3 : (str t3).size = t3.length := str_size _
        cases C
        · go_wp2_with fail
          go_ret
          exact ⟨by rw [← HT.out]; simp, H3.out.bel⟩
        · have hov1 : ¬ 9223372036854775807 < t3.length + 5 := by omega
          go_wp2_with fail
          go_ret
          exact ⟨by rw [← HT.out, if_pos trivial, ← str_app]; rfl, H3.out.bel⟩
end Go.Proofs.YtilahcnpjbnjiaaDoor
