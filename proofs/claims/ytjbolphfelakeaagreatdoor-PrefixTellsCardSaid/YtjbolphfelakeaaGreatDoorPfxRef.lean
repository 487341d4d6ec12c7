import Derived.Test.YtjbolphfelakeaaGreatDoorPfxFns
import Derived.Test.YtjbolphfelakeaaGreatDoorOctetNum
import Derived.Test.YtjbolphfelakeaaGreatDoorPfxLaw
import Derived.Test.YtjbolphfelakeaaGreatDoorColonShowR
import Derived.Test.YtjbolphfelakeaaGreatDoorColonParseR
import Derived.Deep.MidRow
/- The document's prefixes: most, Bit, Has, Covers, Check. -/
namespace Go.Proofs.YtjbolphfelakeaaGreatDoor
set_option linter.unusedVariables false
set_option linter.unusedSimpArgs false
open Go.RowKit Go.Shelf Go.Proofs Go.OctetPlain Go.ColonPlain Go.PrefixPlain

theorem r8_most (six : Bool) (w : World) : Calls Tryz.prog 27 #[.bool six] w fun e w' => e = .returned (.int .i64 (most six)) ∧ w' = w := by
  cases six
  all_goals
    go_enter Tryz.func27, Tryz.ntmps27
    go_wp2_with fail
    go_ret
    exact ⟨rfl, rfl⟩
theorem bit_val8 : ∀ (c : Fin 256) (j : Fin 8), bits .and .i64 (wrap64 ((c : Nat) : Int) / 2 ^ (7 - (j : Nat))) 1 = ((bitB (UInt8.ofNat c) j : Nat) : Int) := by decide +kernel
theorem bit_val8' (c : UInt8) {j : Nat} (h : j < 8) : bits .and .i64 (wrap64 (c.toNat : Int) / 2 ^ (7 - j)) 1 = ((bitB c j : Nat) : Int) := by
  have := bit_val8 ⟨c.toNat, c.toNat_lt⟩ ⟨j, h⟩
  rw [of_nat] at this
  exact this
set_option maxRecDepth 100000 in
set_option maxHeartbeats 1000000 in
theorem r8_Bit (a : List UInt8) (ha : a.length = 16) (i : Int) (hi : -9223372036854775808 ≤ i ∧ i ≤ 9223372036854775807) (w : World) :
    Calls Tryz.prog 16 #[.agg (arrB a), .int .i64 i] w fun e w' => e = .returned (.int .i64 (bit a i)) ∧ Below w.heap.size w w' := by
  by_cases hbad : i < 0 ∨ 128 ≤ i
  · have hr : Hid (bit a i = 0) := Lib.hid (by unfold bit; rw [if_pos hbad])
    rw [hr.out]
    rcases hbad with h | h
    · go_enter Tryz.func16, Tryz.ntmps16
      go_wp2_with fail
      go_ret
      exact ⟨rfl, belowA w _⟩
    · have h0 : ¬ i < 0 := by omega
      have h1 : (127 : Int) < i := by omega
      go_enter Tryz.func16, Tryz.ntmps16
      go_wp2_with fail
      go_ret
      exact ⟨rfl, belowA w _⟩
  · obtain ⟨k, rfl⟩ : ∃ k : Nat, i = k := ⟨i.toNat, by omega⟩
    have hk : k < 128 := by omega
    have h0 : ¬ (k : Int) < 0 := by omega
    have h1 : ¬ (127 : Int) < k := by omega
    have hr : Hid (bit a k = bitN a k) := Lib.hid (by unfold bit; rw [if_neg hbad]; simp)
    rw [hr.out]
    obtain ⟨c, hc⟩ : ∃ c, a[k / 8]? = some c := ⟨_, List.getElem?_eq_getElem (by omega)⟩
    have ce : ∀ o : Obj, (w.alloc (.cells (arrB a) 22)).cell? ⟨w.heap.size, k / 8, none⟩ = some (.int .u8 (c.toNat : Int)) := fun _ => ((Blk.new w 22 (arrB a)).cell _).trans (arrB_get hc)
    have ce' := ce (.cells #[] 0)
    have hb : Hid (bitN a k = bitB c (k % 8)) := Lib.hid (by simp [bitN, List.getD_eq_getElem?_getD, hc])
    have q1 : (k : Int).tdiv 8 = ((k / 8 : Nat) : Int) := by rw [Int.tdiv_eq_ediv_of_nonneg (by omega)]; omega
    have q2 : (k : Int).tmod 8 = ((k % 8 : Nat) : Int) := by rw [Int.tmod_eq_emod_of_nonneg (by omega)]; omega
    have q3 : k / 8 < 16 := by omega
    have q4 : k % 8 < 8 := Nat.mod_lt _ (by omega)
    rw [hb.out]
    clear hc hb hr ce
    generalize k / 8 = d at q1 q3 ce'
    generalize k % 8 = j at q2 q4
    have hj : j = 0 ∨ j = 1 ∨ j = 2 ∨ j = 3 ∨ j = 4 ∨ j = 5 ∨ j = 6 ∨ j = 7 := by omega
    have hd16 : (d : Int) < 16 := by omega
    go_enter Tryz.func16, Tryz.ntmps16
    go_wp2_with fail
    go_ret
    exact ⟨by rw [← bit_val8' c q4]; rfl, belowA w _⟩

set_option maxRecDepth 100000 in
set_option maxHeartbeats 2000000 in
theorem r8_Has (p : Pf) (hp : p.addr.length = 16) (hn : -9223372036854775808 ≤ p.len ∧ p.len ≤ 9223372036854775807) (a : List UInt8) (ha : a.length = 16) (w : World) :
    Calls Tryz.prog 14 #[.agg (pfA p), .agg (arrB a)] w fun e w' => e = .returned (.bool (has p a)) ∧ Below w.heap.size w w' := by
  have KA := A16.of ha
  have KX := PX.of hp
  have hu16 := Tryz.underlying22
  have huP := Tryz.underlying24
  have h0 : HS w ((w.alloc (.cells (pfA p) 24)).alloc (.cells (arrB a) 22)) p a := by
    refine ⟨(Blk.new _ _ _).alloc _, ?_, (belowA w _).alloc (by simp) _⟩
    have h := Blk.new (w.alloc (.cells (pfA p) 24)) 22 (arrB a)
    rw [World.size_alloc] at h
    exact h
  have H0 := Lib.hid h0
  clear h0
  go_enter Tryz.func14, Tryz.ntmps14
  go_wp2_with fail
  go_loopw [5] (fun vi wr => ∃ k : Nat, k ≤ 128 ∧ vi = .int .i64 k ∧ Hid (∀ i : Nat, i < k → (i : Int) < p.len → bitN p.addr i = bitN a i) ∧ Hid (HS w wr p a)) (fun vi _ => 128 - (intOf vi).toNat)
  case atStart => exact ⟨0, by omega, rfl, Lib.hid (fun i h => by omega), H0⟩
  case round =>
    obtain ⟨k, hk, rfl, HK, HB⟩ := hrel
    have c17 := HB.out.bp.p17 hp
    by_cases hlt : (k : Int) < p.len ∧ k < 128
    · obtain ⟨l1, l2⟩ := hlt
      have l3 : (k : Int) < 128 := by omega
      have B1 : Hid (∀ W, Calls Tryz.prog 16 #[.agg (arrB p.addr), .int .i64 k] W fun e w' => e = .returned (.int .i64 (bitN p.addr k : Nat)) ∧ Below W.heap.size W w') := Lib.hid fun W => by
        have h := r8_Bit p.addr hp k (by omega) W
        rw [bit_nat _ l2] at h
        exact h
      have B2 : Hid (∀ W, Calls Tryz.prog 16 #[.agg (arrB a), .int .i64 k] W fun e w' => e = .returned (.int .i64 (bitN a k : Nat)) ∧ Below W.heap.size W w') := Lib.hid fun W => by
        have h := r8_Bit a ha k (by omega) W
        rw [bit_nat _ l2] at h
        exact h
      by_cases he : bitN p.addr k = bitN a k
      · have HE := Lib.hid he
        rw [he] at B1
        clear he
        generalize bitN a k = x at B1 B2
        go_wp2_with fail
        refine wp_region_held_drew (S := fun W => HS w W p a) (by kernel_rfl) HB.out.drew (fun hHeld => ?_)
        refine wpAnyH_take (i := 0) (v := ?_) rfl (by kernel_rfl) (by kernel_rfl) (by kernel_rfl) (fun _ _ _ h => h) (Or.inl ⟨by rfl, ?_⟩) (by assumption) ?_
        rotate_left
        · intro w hSw; go_simp; try with_reducible rfl
        simp only [Act.put, List.setIfInBounds_toArray, List.set_cons_zero, List.set_cons_succ, List.getElem_toArray, List.getElem_cons_zero, List.getElem_cons_succ]
        refine wpAnyH_take (i := 1) rfl (by kernel_rfl) (by kernel_rfl) (by kernel_rfl) (fun _ _ _ h => h) (yieldsIf_load_addr (by rfl) _ rfl (w.heap.size) 1 rfl (p.addr) (hp) (fun w h => (h.bp).pA)) (by assumption) ?_
        simp only [Act.put, List.setIfInBounds_toArray, List.set_cons_zero, List.set_cons_succ, List.getElem_toArray, List.getElem_cons_zero, List.getElem_cons_succ]
        refine wpAnyH_take (i := 2) (v := ?_) rfl (by kernel_rfl) (by kernel_rfl) (by kernel_rfl) (fun _ _ _ h => h) (Or.inl ⟨by rfl, ?_⟩) (by assumption) ?_
        rotate_left
        · intro w hSw; go_simp; try with_reducible rfl
        simp only [Act.put, List.setIfInBounds_toArray, List.set_cons_zero, List.set_cons_succ, List.getElem_toArray, List.getElem_cons_zero, List.getElem_cons_succ]
        refine wpAnyH_take (i := 4) rfl (by kernel_rfl) (by kernel_rfl) (by kernel_rfl) (fun _ _ _ h => h) (yieldsIf_load_row (by rfl) _ _ rfl (w.heap.size + 1) rfl _ (arrB a) _ (fun w h => h.ba) hu16 rfl KA.info) (by assumption) ?_
        simp only [Act.put, List.setIfInBounds_toArray, List.set_cons_zero, List.set_cons_succ, List.getElem_toArray, List.getElem_cons_zero, List.getElem_cons_succ]
        refine wpAnyH_take (i := 5) (v := ?_) rfl (by kernel_rfl) (by kernel_rfl) (by kernel_rfl) (fun _ _ _ h => h) (Or.inl ⟨by rfl, ?_⟩) (by assumption) ?_
        rotate_left
        · intro w hSw; go_simp; try with_reducible rfl
        simp only [Act.put, List.setIfInBounds_toArray, List.set_cons_zero, List.set_cons_succ, List.getElem_toArray, List.getElem_cons_zero, List.getElem_cons_succ]
        refine held_step (i := 3) rfl (by kernel_rfl) (by rfl) (fun K hK => ?_)
        go_simp
        refine (B1.out _).mono ?_; rintro e w1 ⟨rfl, hb1⟩
        go_wp2_with fail
        refine hK.out _ _ (HS.next (by assumption) hb1) (fun hHeld => ?_)
        clear hK K
        try simp only [Act.put, List.setIfInBounds_toArray, List.set_cons_zero, List.set_cons_succ, List.getElem_toArray, List.getElem_cons_zero, List.getElem_cons_succ]
        refine held_step (i := 6) rfl (by kernel_rfl) (by rfl) (fun K hK => ?_)
        go_simp
        refine (B2.out _).mono ?_; rintro e w2 ⟨rfl, hb2⟩
        go_wp2_with fail
        refine hK.out _ _ (HS.next (by assumption) hb2) (fun hHeld => ?_)
        clear hK K
        try simp only [Act.put, List.setIfInBounds_toArray, List.set_cons_zero, List.set_cons_succ, List.getElem_toArray, List.getElem_cons_zero, List.getElem_cons_succ]
        refine wpAnyH_take (i := 7) (v := ?_) rfl (by kernel_rfl) (by kernel_rfl) (by kernel_rfl) (fun _ _ _ h => h) (Or.inl ⟨by rfl, ?_⟩) (by assumption) ?_
        rotate_left
        · intro w hSw; go_simp; try with_reducible rfl
        simp only [Act.put, List.setIfInBounds_toArray, List.set_cons_zero, List.set_cons_succ, List.getElem_toArray, List.getElem_cons_zero, List.getElem_cons_succ]
        refine wpAnyH_done (by kernel_rfl) ?_ _
        all_goals go_wp2_with fail
        all_goals refine ⟨⟨k + 1, by omega, by go_num, Lib.hid (fun i hi hl => ?_), Lib.hid (by assumption)⟩, by simp [intOf]; omega⟩
        all_goals by_cases hik : i = k
        all_goals first | (subst hik; exact HE.out) | exact HK.out i (by omega) hl
      · have hr : Hid (has p a = false) := Lib.hid (by
          rw [← Bool.not_eq_true, has_bits hp ha]
          exact fun h => he (h k l2 l1))
        generalize bitN p.addr k = x at B1 he
        generalize bitN a k = y at B2 he
        have he' : ((x : Int) == (y : Int)) = false := by rw [beq_eq_false_iff_ne]; exact fun h => he (by omega)
        clear he
        go_wp2_with fail
        refine wp_region_held_drew (S := fun W => HS w W p a) (by kernel_rfl) HB.out.drew (fun hHeld => ?_)
        refine wpAnyH_take (i := 0) (v := ?_) rfl (by kernel_rfl) (by kernel_rfl) (by kernel_rfl) (fun _ _ _ h => h) (Or.inl ⟨by rfl, ?_⟩) (by assumption) ?_
        rotate_left
        · intro w hSw; go_simp; try with_reducible rfl
        simp only [Act.put, List.setIfInBounds_toArray, List.set_cons_zero, List.set_cons_succ, List.getElem_toArray, List.getElem_cons_zero, List.getElem_cons_succ]
        refine wpAnyH_take (i := 1) rfl (by kernel_rfl) (by kernel_rfl) (by kernel_rfl) (fun _ _ _ h => h) (yieldsIf_load_addr (by rfl) _ rfl (w.heap.size) 1 rfl (p.addr) (hp) (fun w h => (h.bp).pA)) (by assumption) ?_
        simp only [Act.put, List.setIfInBounds_toArray, List.set_cons_zero, List.set_cons_succ, List.getElem_toArray, List.getElem_cons_zero, List.getElem_cons_succ]
        refine wpAnyH_take (i := 2) (v := ?_) rfl (by kernel_rfl) (by kernel_rfl) (by kernel_rfl) (fun _ _ _ h => h) (Or.inl ⟨by rfl, ?_⟩) (by assumption) ?_
        rotate_left
        · intro w hSw; go_simp; try with_reducible rfl
        simp only [Act.put, List.setIfInBounds_toArray, List.set_cons_zero, List.set_cons_succ, List.getElem_toArray, List.getElem_cons_zero, List.getElem_cons_succ]
        refine wpAnyH_take (i := 4) rfl (by kernel_rfl) (by kernel_rfl) (by kernel_rfl) (fun _ _ _ h => h) (yieldsIf_load_row (by rfl) _ _ rfl (w.heap.size + 1) rfl _ (arrB a) _ (fun w h => h.ba) hu16 rfl KA.info) (by assumption) ?_
        simp only [Act.put, List.setIfInBounds_toArray, List.set_cons_zero, List.set_cons_succ, List.getElem_toArray, List.getElem_cons_zero, List.getElem_cons_succ]
        refine wpAnyH_take (i := 5) (v := ?_) rfl (by kernel_rfl) (by kernel_rfl) (by kernel_rfl) (fun _ _ _ h => h) (Or.inl ⟨by rfl, ?_⟩) (by assumption) ?_
        rotate_left
        · intro w hSw; go_simp; try with_reducible rfl
        simp only [Act.put, List.setIfInBounds_toArray, List.set_cons_zero, List.set_cons_succ, List.getElem_toArray, List.getElem_cons_zero, List.getElem_cons_succ]
        refine held_step (i := 3) rfl (by kernel_rfl) (by rfl) (fun K hK => ?_)
        go_simp
        refine (B1.out _).mono ?_; rintro e w1 ⟨rfl, hb1⟩
        go_wp2_with fail
        refine hK.out _ _ (HS.next (by assumption) hb1) (fun hHeld => ?_)
        clear hK K
        try simp only [Act.put, List.setIfInBounds_toArray, List.set_cons_zero, List.set_cons_succ, List.getElem_toArray, List.getElem_cons_zero, List.getElem_cons_succ]
        refine held_step (i := 6) rfl (by kernel_rfl) (by rfl) (fun K hK => ?_)
        go_simp
        refine (B2.out _).mono ?_; rintro e w2 ⟨rfl, hb2⟩
        go_wp2_with fail
        refine hK.out _ _ (HS.next (by assumption) hb2) (fun hHeld => ?_)
        clear hK K
        try simp only [Act.put, List.setIfInBounds_toArray, List.set_cons_zero, List.set_cons_succ, List.getElem_toArray, List.getElem_cons_zero, List.getElem_cons_succ]
        refine wpAnyH_take (i := 7) (v := ?_) rfl (by kernel_rfl) (by kernel_rfl) (by kernel_rfl) (fun _ _ _ h => h) (Or.inl ⟨by rfl, ?_⟩) (by assumption) ?_
        rotate_left
        · intro w hSw; go_simp; try with_reducible rfl
        simp only [Act.put, List.setIfInBounds_toArray, List.set_cons_zero, List.set_cons_succ, List.getElem_toArray, List.getElem_cons_zero, List.getElem_cons_succ]
        refine wpAnyH_done (by kernel_rfl) ?_ _
        all_goals go_wp2_with fail
        all_goals go_ret
        all_goals exact ⟨by rw [hr.out]; rfl, HS.below (by assumption)⟩
    · have hr : Hid (has p a = true) := Lib.hid (by
        rw [has_bits hp ha]
        intro i hi hl
        by_cases hik : i < k
        · exact HK.out i hik hl
        · omega)
      by_cases l1 : (k : Int) < p.len
      · have l2 : ¬ (k : Int) < 128 := by omega
        go_wp2_with fail
        go_ret
        exact ⟨by rw [hr.out]; rfl, HB.out.below⟩
      · go_wp2_with fail
        go_ret
        exact ⟨by rw [hr.out]; rfl, HB.out.below⟩

set_option maxRecDepth 100000 in
set_option maxHeartbeats 1000000 in
theorem r8_Covers (p q : Pf) (hp : p.addr.length = 16) (hq : q.addr.length = 16) (lp : Len64 p) (lq : Len64 q) (w : World) :
    Calls Tryz.prog 20 #[.agg (pfA p), .agg (pfA q)] w fun e w' => e = .returned (.bool (covers p q)) ∧ Below w.heap.size w w' := by
  have HA := Lib.hid fun W => r8_Has p hp lp q.addr hq W
  have huP := Tryz.underlying24
  have KP := PX.of hp
  have H0 := Lib.hid (PP.init w p q)
  have HR : Hid (covers p q = (decide (p.six = q.six) && (decide (p.len ≤ q.len) && has p q.addr))) := Lib.hid rfl
  generalize has p q.addr = b at HA HR
  go_enter Tryz.func20, Tryz.ntmps20
  go_wp2_with (first
    | (refine wpList_load_want rfl _ _ rfl w.heap.size rfl _ (pfA p) (0, 0) _ H0.out.bp huP rfl KP.info ?_)
    | (refine wpList_load_addr rfl _ rfl (w.heap.size + 1) 1 rfl q.addr hq H0.out.bq.pA ?_))
  refine (HA.out _).mono ?_
  rintro e w1 ⟨rfl, hb1⟩
  have HB := Lib.hid (H0.out.next hb1)
  clear hb1
  have c0 := HB.out.bp.p0
  have c17 := HB.out.bp.p17 hp
  have d0 := HB.out.bq.p0
  have d17 := HB.out.bq.p17 hq
  by_cases hs : p.six = q.six
  · have hs' : (p.six == q.six) = true := by simpa using hs
    by_cases hl : p.len ≤ q.len
    · have hr : Hid (covers p q = b) := Lib.hid (by rw [HR.out]; simp [hs, hl])
      clear hs HR
      go_wp2_with fail
      go_ret
      exact ⟨by rw [hr.out]; rfl, HB.out.below⟩
    · have hr : Hid (covers p q = false) := Lib.hid (by rw [HR.out]; simp [hl])
      clear hs HR
      go_wp2_with fail
      go_ret
      exact ⟨by rw [hr.out]; rfl, HB.out.below⟩
  · have hr : Hid (covers p q = false) := Lib.hid (by rw [HR.out]; simp [hs])
    have hs' : (p.six == q.six) = false := by simpa using hs
    clear hs HR
    go_wp2_with fail
    go_ret
    exact ⟨by rw [hr.out]; rfl, HB.out.below⟩

set_option maxRecDepth 100000 in
set_option maxHeartbeats 2000000 in
theorem r8_Check (p : Pf) (hp : p.addr.length = 16) (hn : -9223372036854775808 ≤ p.len ∧ p.len ≤ 9223372036854775807) (w : World) :
    Calls Tryz.prog 8 #[.agg (pfA p)] w fun e w' => e = .returned (.int .i64 (okN p)) ∧ Below w.heap.size w w' := by
  have MO := Lib.hid fun W => r8_most p.six W
  have huP := Tryz.underlying24
  have KX := PX.of hp
  have h0 : CS w (w.alloc (.cells (pfA p) 24)) p := ⟨Blk.new _ _ _, belowA w _⟩
  have H0 := Lib.hid h0
  clear h0
  by_cases hneg : p.len < 0
  · have hr : Hid (okN p = 1) := Lib.hid (by unfold okN; rw [if_neg (fun h => by have := h.1; omega)])
    rw [hr.out]
    go_enter Tryz.func8, Tryz.ntmps8
    go_wp2_with fail
    refine wp_region_held_drew (S := fun W => CS w W p) (by kernel_rfl) H0.out.drew (fun hHeld => ?_)
    refine wpAnyH_take (i := 0) (v := ?_) rfl (by kernel_rfl) (by kernel_rfl) (by kernel_rfl) (fun _ _ _ h => h) (Or.inl ⟨by rfl, ?_⟩) (by assumption) ?_
    rotate_left
    · intro w hSw; go_simp; try with_reducible rfl
    simp only [Act.put, List.setIfInBounds_toArray, List.set_cons_zero, List.set_cons_succ, List.getElem_toArray, List.getElem_cons_zero, List.getElem_cons_succ]
    refine wpAnyH_take (i := 1) (v := ?_) rfl (by kernel_rfl) (by kernel_rfl) (by kernel_rfl) (fun _ _ _ h => h) (Or.inl ⟨by rfl, ?_⟩) (by assumption) ?_
    rotate_left
    · intro w h; have hf := (h.b).p17 hp; go_simp; try with_reducible rfl
    simp only [Act.put, List.setIfInBounds_toArray, List.set_cons_zero, List.set_cons_succ, List.getElem_toArray, List.getElem_cons_zero, List.getElem_cons_succ]
    refine wpAnyH_take (i := 2) (v := .bool true) rfl (by kernel_rfl) (by kernel_rfl) (by kernel_rfl) (fun _ _ _ h => h) (Or.inl ⟨by rfl, ?_⟩) (by assumption) ?_
    · intro w hSw; go_simp; try (omega)
    simp only [Act.put, List.setIfInBounds_toArray, List.set_cons_zero, List.set_cons_succ, List.getElem_toArray, List.getElem_cons_zero, List.getElem_cons_succ]
    refine wpAnyH_take (i := 3) (v := ?_) rfl (by kernel_rfl) (by kernel_rfl) (by kernel_rfl) (fun _ _ _ h => h) (Or.inl ⟨by rfl, ?_⟩) (by assumption) ?_
    rotate_left
    · intro w hSw; go_simp; try with_reducible rfl
    simp only [Act.put, List.setIfInBounds_toArray, List.set_cons_zero, List.set_cons_succ, List.getElem_toArray, List.getElem_cons_zero, List.getElem_cons_succ]
    refine wpAnyH_take (i := 4) rfl (by kernel_rfl) (by kernel_rfl) (by kernel_rfl) (fun _ _ _ h => h) (yieldsIf_off (by rfl)) (by assumption) ?_
    simp only [Act.put, List.setIfInBounds_toArray, List.set_cons_zero, List.set_cons_succ, List.getElem_toArray, List.getElem_cons_zero, List.getElem_cons_succ]
    refine wpAnyH_take (i := 5) rfl (by kernel_rfl) (by kernel_rfl) (by kernel_rfl) (fun _ _ _ h => h) (yieldsIf_off (by rfl)) (by assumption) ?_
    simp only [Act.put, List.setIfInBounds_toArray, List.set_cons_zero, List.set_cons_succ, List.getElem_toArray, List.getElem_cons_zero, List.getElem_cons_succ]
    refine wpAnyH_take (i := 6) rfl (by kernel_rfl) (by kernel_rfl) (by kernel_rfl) (fun _ _ _ h => h) (yieldsIf_off (by rfl)) (by assumption) ?_
    simp only [Act.put, List.setIfInBounds_toArray, List.set_cons_zero, List.set_cons_succ, List.getElem_toArray, List.getElem_cons_zero, List.getElem_cons_succ]
    refine wpAnyH_take (i := 7) rfl (by kernel_rfl) (by kernel_rfl) (by kernel_rfl) (fun _ _ _ h => h) (yieldsIf_off (by rfl)) (by assumption) ?_
    simp only [Act.put, List.setIfInBounds_toArray, List.set_cons_zero, List.set_cons_succ, List.getElem_toArray, List.getElem_cons_zero, List.getElem_cons_succ]
    refine wpAnyH_take (i := 8) rfl (by kernel_rfl) (by kernel_rfl) (by kernel_rfl) (fun _ _ _ h => h) (yieldsIf_off (by rfl)) (by assumption) ?_
    simp only [Act.put, List.setIfInBounds_toArray, List.set_cons_zero, List.set_cons_succ, List.getElem_toArray, List.getElem_cons_zero, List.getElem_cons_succ]
    refine wpAnyH_take (i := 9) rfl (by kernel_rfl) (by kernel_rfl) (by kernel_rfl) (fun _ _ _ h => h) (yieldsIf_off (by rfl)) (by assumption) ?_
    simp only [Act.put, List.setIfInBounds_toArray, List.set_cons_zero, List.set_cons_succ, List.getElem_toArray, List.getElem_cons_zero, List.getElem_cons_succ]
    refine wpAnyH_take (i := 10) (v := ?_) rfl (by kernel_rfl) (by kernel_rfl) (by kernel_rfl) (fun _ _ _ h => h) (Or.inl ⟨by rfl, ?_⟩) (by assumption) ?_
    rotate_left
    · intro w hSw; go_simp; try with_reducible rfl
    simp only [Act.put, List.setIfInBounds_toArray, List.set_cons_zero, List.set_cons_succ, List.getElem_toArray, List.getElem_cons_zero, List.getElem_cons_succ]
    refine wpAnyH_done (by kernel_rfl) ?_ _
    all_goals go_wp2_with fail
    all_goals go_ret
    all_goals exact ⟨rfl, CS.below (by assumption)⟩
  · have hm := most_pos p.six
    by_cases hM : most p.six < p.len
    · have hr : Hid (okN p = 1) := Lib.hid (by unfold okN; rw [if_neg (fun h => by have := h.2.1; omega)])
      rw [hr.out]
      clear hr
      generalize most p.six = M at MO hM hm
      go_enter Tryz.func8, Tryz.ntmps8
      go_wp2_with fail
      refine wp_region_held_drew (S := fun W => CS w W p) (by kernel_rfl) H0.out.drew (fun hHeld => ?_)
      refine wpAnyH_take (i := 0) (v := ?_) rfl (by kernel_rfl) (by kernel_rfl) (by kernel_rfl) (fun _ _ _ h => h) (Or.inl ⟨by rfl, ?_⟩) (by assumption) ?_
      rotate_left
      · intro w hSw; go_simp; try with_reducible rfl
      simp only [Act.put, List.setIfInBounds_toArray, List.set_cons_zero, List.set_cons_succ, List.getElem_toArray, List.getElem_cons_zero, List.getElem_cons_succ]
      refine wpAnyH_take (i := 1) (v := ?_) rfl (by kernel_rfl) (by kernel_rfl) (by kernel_rfl) (fun _ _ _ h => h) (Or.inl ⟨by rfl, ?_⟩) (by assumption) ?_
      rotate_left
      · intro w h; have hf := (h.b).p17 hp; go_simp; try with_reducible rfl
      simp only [Act.put, List.setIfInBounds_toArray, List.set_cons_zero, List.set_cons_succ, List.getElem_toArray, List.getElem_cons_zero, List.getElem_cons_succ]
      refine wpAnyH_take (i := 2) (v := .bool false) rfl (by kernel_rfl) (by kernel_rfl) (by kernel_rfl) (fun _ _ _ h => h) (Or.inl ⟨by rfl, ?_⟩) (by assumption) ?_
      · intro w hSw; go_simp; try (omega)
      simp only [Act.put, List.setIfInBounds_toArray, List.set_cons_zero, List.set_cons_succ, List.getElem_toArray, List.getElem_cons_zero, List.getElem_cons_succ]
      refine wpAnyH_take (i := 3) (v := ?_) rfl (by kernel_rfl) (by kernel_rfl) (by kernel_rfl) (fun _ _ _ h => h) (Or.inl ⟨by rfl, ?_⟩) (by assumption) ?_
      rotate_left
      · intro w hSw; go_simp; try with_reducible rfl
      simp only [Act.put, List.setIfInBounds_toArray, List.set_cons_zero, List.set_cons_succ, List.getElem_toArray, List.getElem_cons_zero, List.getElem_cons_succ]
      refine wpAnyH_take (i := 4) (v := ?_) rfl (by kernel_rfl) (by kernel_rfl) (by kernel_rfl) (fun _ _ _ h => h) (Or.inl ⟨by rfl, ?_⟩) (by assumption) ?_
      rotate_left
      · intro w hSw; go_simp; try with_reducible rfl
      simp only [Act.put, List.setIfInBounds_toArray, List.set_cons_zero, List.set_cons_succ, List.getElem_toArray, List.getElem_cons_zero, List.getElem_cons_succ]
      refine wpAnyH_take (i := 5) (v := ?_) rfl (by kernel_rfl) (by kernel_rfl) (by kernel_rfl) (fun _ _ _ h => h) (Or.inl ⟨by rfl, ?_⟩) (by assumption) ?_
      rotate_left
      · intro w h; have hf := (h.b).p17 hp; go_simp; try with_reducible rfl
      simp only [Act.put, List.setIfInBounds_toArray, List.set_cons_zero, List.set_cons_succ, List.getElem_toArray, List.getElem_cons_zero, List.getElem_cons_succ]
      refine wpAnyH_take (i := 6) (v := ?_) rfl (by kernel_rfl) (by kernel_rfl) (by kernel_rfl) (fun _ _ _ h => h) (Or.inl ⟨by rfl, ?_⟩) (by assumption) ?_
      rotate_left
      · intro w hSw; go_simp; try with_reducible rfl
      simp only [Act.put, List.setIfInBounds_toArray, List.set_cons_zero, List.set_cons_succ, List.getElem_toArray, List.getElem_cons_zero, List.getElem_cons_succ]
      refine wpAnyH_take (i := 7) (v := ?_) rfl (by kernel_rfl) (by kernel_rfl) (by kernel_rfl) (fun _ _ _ h => h) (Or.inl ⟨by rfl, ?_⟩) (by assumption) ?_
      rotate_left
      · intro w h; have hf := (h.b).p0; go_simp; try with_reducible rfl
      simp only [Act.put, List.setIfInBounds_toArray, List.set_cons_zero, List.set_cons_succ, List.getElem_toArray, List.getElem_cons_zero, List.getElem_cons_succ]
      refine held_step (i := 8) rfl (by kernel_rfl) (by rfl) (fun K hK => ?_)
      go_simp
      refine (MO.out _).mono ?_; rintro e w1 ⟨rfl, hw1⟩; subst hw1
      go_wp2_with fail
      refine hK.out _ _ ((by assumption)) (fun hHeld => ?_)
      clear hK K
      try simp only [Act.put, List.setIfInBounds_toArray, List.set_cons_zero, List.set_cons_succ, List.getElem_toArray, List.getElem_cons_zero, List.getElem_cons_succ]
      refine wpAnyH_take (i := 9) (v := .bool true) rfl (by kernel_rfl) (by kernel_rfl) (by kernel_rfl) (fun _ _ _ h => h) (Or.inl ⟨by rfl, ?_⟩) (by assumption) ?_
      · intro w hSw; go_simp; try (omega)
      simp only [Act.put, List.setIfInBounds_toArray, List.set_cons_zero, List.set_cons_succ, List.getElem_toArray, List.getElem_cons_zero, List.getElem_cons_succ]
      refine wpAnyH_take (i := 10) (v := ?_) rfl (by kernel_rfl) (by kernel_rfl) (by kernel_rfl) (fun _ _ _ h => h) (Or.inl ⟨by rfl, ?_⟩) (by assumption) ?_
      rotate_left
      · intro w hSw; go_simp; try with_reducible rfl
      simp only [Act.put, List.setIfInBounds_toArray, List.set_cons_zero, List.set_cons_succ, List.getElem_toArray, List.getElem_cons_zero, List.getElem_cons_succ]
      refine wpAnyH_done (by kernel_rfl) ?_ _
      all_goals go_wp2_with fail
      all_goals go_ret
      all_goals exact ⟨rfl, CS.below (by assumption)⟩
    · obtain ⟨n, hnl⟩ : ∃ n : Nat, p.len = n := ⟨p.len.toNat, by omega⟩
      have hn128 : n ≤ 128 := by omega
      have HYES : Hid ((∀ i : Nat, n ≤ i → i < 128 → bitN p.addr i = 0) → okN p = 0) := Lib.hid (fun h => by
        unfold okN; rw [if_pos ((ok_bits hp).2 ⟨by omega, by omega, fun i h1 h2 => h i (by omega) h1⟩)])
      have HNO : Hid (∀ k : Nat, n ≤ k → k < 128 → bitN p.addr k = 1 → okN p = 1) := Lib.hid (fun k h1 h2 h3 => by
        unfold okN; rw [if_neg (fun h => by have := ((ok_bits hp).1 h).2.2 k h2 (by omega); omega)])
      clear hneg
      have hneg : ¬ p.len < 0 := by omega
      generalize most p.six = M at MO hM hm
      go_enter Tryz.func8, Tryz.ntmps8
      go_wp2_with fail
      refine wp_region_held_drew (S := fun W => CS w W p) (by kernel_rfl) H0.out.drew (fun hHeld => ?_)
      refine wpAnyH_take (i := 0) (v := ?_) rfl (by kernel_rfl) (by kernel_rfl) (by kernel_rfl) (fun _ _ _ h => h) (Or.inl ⟨by rfl, ?_⟩) (by assumption) ?_
      rotate_left
      · intro w hSw; go_simp; try with_reducible rfl
      simp only [Act.put, List.setIfInBounds_toArray, List.set_cons_zero, List.set_cons_succ, List.getElem_toArray, List.getElem_cons_zero, List.getElem_cons_succ]
      refine wpAnyH_take (i := 1) (v := ?_) rfl (by kernel_rfl) (by kernel_rfl) (by kernel_rfl) (fun _ _ _ h => h) (Or.inl ⟨by rfl, ?_⟩) (by assumption) ?_
      rotate_left
      · intro w h; have hf := (h.b).p17 hp; go_simp; try with_reducible rfl
      simp only [Act.put, List.setIfInBounds_toArray, List.set_cons_zero, List.set_cons_succ, List.getElem_toArray, List.getElem_cons_zero, List.getElem_cons_succ]
      refine wpAnyH_take (i := 2) (v := .bool false) rfl (by kernel_rfl) (by kernel_rfl) (by kernel_rfl) (fun _ _ _ h => h) (Or.inl ⟨by rfl, ?_⟩) (by assumption) ?_
      · intro w hSw; go_simp; try (omega)
      simp only [Act.put, List.setIfInBounds_toArray, List.set_cons_zero, List.set_cons_succ, List.getElem_toArray, List.getElem_cons_zero, List.getElem_cons_succ]
      refine wpAnyH_take (i := 3) (v := ?_) rfl (by kernel_rfl) (by kernel_rfl) (by kernel_rfl) (fun _ _ _ h => h) (Or.inl ⟨by rfl, ?_⟩) (by assumption) ?_
      rotate_left
      · intro w hSw; go_simp; try with_reducible rfl
      simp only [Act.put, List.setIfInBounds_toArray, List.set_cons_zero, List.set_cons_succ, List.getElem_toArray, List.getElem_cons_zero, List.getElem_cons_succ]
      refine wpAnyH_take (i := 4) (v := ?_) rfl (by kernel_rfl) (by kernel_rfl) (by kernel_rfl) (fun _ _ _ h => h) (Or.inl ⟨by rfl, ?_⟩) (by assumption) ?_
      rotate_left
      · intro w hSw; go_simp; try with_reducible rfl
      simp only [Act.put, List.setIfInBounds_toArray, List.set_cons_zero, List.set_cons_succ, List.getElem_toArray, List.getElem_cons_zero, List.getElem_cons_succ]
      refine wpAnyH_take (i := 5) (v := ?_) rfl (by kernel_rfl) (by kernel_rfl) (by kernel_rfl) (fun _ _ _ h => h) (Or.inl ⟨by rfl, ?_⟩) (by assumption) ?_
      rotate_left
      · intro w h; have hf := (h.b).p17 hp; go_simp; try with_reducible rfl
      simp only [Act.put, List.setIfInBounds_toArray, List.set_cons_zero, List.set_cons_succ, List.getElem_toArray, List.getElem_cons_zero, List.getElem_cons_succ]
      refine wpAnyH_take (i := 6) (v := ?_) rfl (by kernel_rfl) (by kernel_rfl) (by kernel_rfl) (fun _ _ _ h => h) (Or.inl ⟨by rfl, ?_⟩) (by assumption) ?_
      rotate_left
      · intro w hSw; go_simp; try with_reducible rfl
      simp only [Act.put, List.setIfInBounds_toArray, List.set_cons_zero, List.set_cons_succ, List.getElem_toArray, List.getElem_cons_zero, List.getElem_cons_succ]
      refine wpAnyH_take (i := 7) (v := ?_) rfl (by kernel_rfl) (by kernel_rfl) (by kernel_rfl) (fun _ _ _ h => h) (Or.inl ⟨by rfl, ?_⟩) (by assumption) ?_
      rotate_left
      · intro w h; have hf := (h.b).p0; go_simp; try with_reducible rfl
      simp only [Act.put, List.setIfInBounds_toArray, List.set_cons_zero, List.set_cons_succ, List.getElem_toArray, List.getElem_cons_zero, List.getElem_cons_succ]
      refine held_step (i := 8) rfl (by kernel_rfl) (by rfl) (fun K hK => ?_)
      go_simp
      refine (MO.out _).mono ?_; rintro e w1 ⟨rfl, hw1⟩; subst hw1
      go_wp2_with fail
      refine hK.out _ _ ((by assumption)) (fun hHeld => ?_)
      clear hK K
      try simp only [Act.put, List.setIfInBounds_toArray, List.set_cons_zero, List.set_cons_succ, List.getElem_toArray, List.getElem_cons_zero, List.getElem_cons_succ]
      refine wpAnyH_take (i := 9) (v := .bool false) rfl (by kernel_rfl) (by kernel_rfl) (by kernel_rfl) (fun _ _ _ h => h) (Or.inl ⟨by rfl, ?_⟩) (by assumption) ?_
      · intro w hSw; go_simp; try (omega)
      simp only [Act.put, List.setIfInBounds_toArray, List.set_cons_zero, List.set_cons_succ, List.getElem_toArray, List.getElem_cons_zero, List.getElem_cons_succ]
      refine wpAnyH_take (i := 10) (v := ?_) rfl (by kernel_rfl) (by kernel_rfl) (by kernel_rfl) (fun _ _ _ h => h) (Or.inl ⟨by rfl, ?_⟩) (by assumption) ?_
      rotate_left
      · intro w hSw; go_simp; try with_reducible rfl
      simp only [Act.put, List.setIfInBounds_toArray, List.set_cons_zero, List.set_cons_succ, List.getElem_toArray, List.getElem_cons_zero, List.getElem_cons_succ]
      refine wpAnyH_done (by kernel_rfl) ?_ _
      have HC := Lib.hid hHeld
      clear hHeld
      have c17 := HC.out.b.p17 hp
      rw [hnl] at c17
      go_wp2_with fail
      go_loopw [3] (fun vi wr => ∃ k : Nat, n ≤ k ∧ k ≤ 128 ∧ vi = .int .i64 k ∧ Hid (∀ i : Nat, n ≤ i → i < k → bitN p.addr i = 0) ∧ Hid (CS w wr p)) (fun vi _ => 128 - (intOf vi).toNat)
      case atStart => exact ⟨n, Nat.le_refl _, hn128, rfl, Lib.hid (fun i h1 h2 => by omega), HC⟩
      case round =>
        obtain ⟨k, hnk, hk, rfl, HK, HB⟩ := hrel
        by_cases hlt : k < 128
        · have B1 : Hid (∀ W, Calls Tryz.prog 16 #[.agg (arrB p.addr), .int .i64 k] W fun e w' => e = .returned (.int .i64 (bitN p.addr k : Nat)) ∧ Below W.heap.size W w') := Lib.hid fun W => by
            have h := r8_Bit p.addr hp k (by omega) W
            rw [bit_nat _ hlt] at h
            exact h
          have hb2 := bitN_lt p.addr k
          by_cases h1 : bitN p.addr k = 1
          · have hr : Hid (okN p = 1) := Lib.hid (HNO.out k hnk hlt h1)
            rw [h1] at B1
            clear hb2 h1
            go_wp2_with (refine wpList_load_addr rfl _ rfl w.heap.size 1 rfl p.addr hp HB.out.b.pA ?_)
            refine (B1.out _).mono ?_
            rintro e w1 ⟨rfl, hb1⟩
            have HB1 := Lib.hid (HB.out.next hb1)
            clear hb1
            go_wp2_with fail
            go_ret
            exact ⟨by rw [hr.out]; rfl, HB1.out.below⟩
          · have h0' : bitN p.addr k = 0 := by omega
            have HE := Lib.hid h0'
            rw [h0'] at B1
            clear hb2 h1 h0'
            go_wp2_with (refine wpList_load_addr rfl _ rfl w.heap.size 1 rfl p.addr hp HB.out.b.pA ?_)
            refine (B1.out _).mono ?_
            rintro e w1 ⟨rfl, hb1⟩
            have HB1 := Lib.hid (HB.out.next hb1)
            clear hb1
            go_wp2_with fail
            refine ⟨⟨k + 1, by omega, by omega, by go_num, Lib.hid (fun i h1 h2 => ?_), HB1⟩, by simp [intOf]; omega⟩
            by_cases hik : i = k
            · subst hik; exact HE.out
            · exact HK.out i h1 (by omega)
        · obtain rfl : k = 128 := by omega
          have hr : Hid (okN p = 0) := Lib.hid (HYES.out HK.out)
          go_wp2_with fail
          go_ret
          exact ⟨by rw [hr.out]; rfl, HB.out.below⟩
end Go.Proofs.YtjbolphfelakeaaGreatDoor

/- The document's prefixes: Of, Common. -/
namespace Go.Proofs.YtjbolphfelakeaaGreatDoor
set_option linter.unusedVariables false
set_option linter.unusedSimpArgs false
open Go.RowKit Go.Shelf Go.Proofs Go.OctetPlain Go.ColonPlain Go.PrefixPlain

theorem pfA_set {p : Pf} (h : p.addr.length = 16) {d : Nat} (hd : d < 16) (v : UInt8) : (pfA p).setIfInBounds (1 + d) (.int .u8 (v.toNat : Int)) = pfA ⟨p.six, p.addr.set d v, p.len⟩ := by
  unfold pfA
  rw [List.setIfInBounds_toArray, Nat.add_comm, List.set_cons_succ, List.set_append_left _ _ (by rw [cellsB_len]; omega)]
  simp [cellsB, List.map_set]
theorem first_same {a : List UInt8} (ha : a.length = 16) {k : Nat} (hk : k < 128) (h : bitN a k = 0) : first a ((k : Int) + 1) = first a k := by
  refine list_ext (by rw [first_length, ha]) (by rw [first_length, ha]) fun i hi => ?_
  rw [bitN_first ha _ hi, bitN_first ha _ hi]
  by_cases hik : i = k
  · subst hik; rw [h]; simp
  · by_cases h1 : (i : Int) < k
    · rw [if_pos h1, if_pos (by omega)]
    · rw [if_neg h1, if_neg (by omega)]
theorem add_u8 : ∀ (c : Fin 256) (j : Fin 8), ((((c : Nat) : Int) + (128 : Int) / (2 : Int) ^ (j : Nat)) % (256 : Int)) = ((UInt8.ofNat ((c : Nat) + 128 >>> (j : Nat))).toNat : Int) := by decide +kernel
theorem add_u8' (c : UInt8) {j : Nat} (hj : j < 8) : (((c.toNat : Int) + (128 : Int) / (2 : Int) ^ j) % (256 : Int)) = ((UInt8.ofNat (c.toNat + 128 >>> j)).toNat : Int) := add_u8 ⟨c.toNat, c.toNat_lt⟩ ⟨j, hj⟩
structure OS (w W : World) (a : List UInt8) (p : Pf) : Prop where
  b0 : Blk W w.heap.size 22 (arrB a)
  b1 : Blk W (w.heap.size + 1) 24 (pfA zP)
  b2 : Blk W (w.heap.size + 2) 24 (pfA p)
  below : Below w.heap.size w W
theorem OS.next {w W W' : World} {a : List UInt8} {p : Pf} (h : OS w W a p) (hb : Below W.heap.size W W') : OS w W' a p := ⟨h.b0.below hb h.b0.lt, h.b1.below hb h.b1.lt, h.b2.below hb h.b2.lt, h.below.trans (hb.mono h.below.size)⟩
theorem OS.init (w : World) (a : List UInt8) (p : Pf) : OS w (((w.alloc (.cells (arrB a) 22)).alloc (.cells (pfA zP) 24)).alloc (.cells (pfA p) 24)) a p := by
  have g1 := Blk.new (w.alloc (.cells (arrB a) 22)) 24 (pfA zP)
  rw [World.size_alloc] at g1
  have g2 := Blk.new ((w.alloc (.cells (arrB a) 22)).alloc (.cells (pfA zP) 24)) 24 (pfA p)
  simp only [World.size_alloc] at g2
  exact ⟨((Blk.new w 22 (arrB a)).alloc _).alloc _, g1.alloc _, g2, ((belowA w _).alloc (by simp) _).alloc (by simp <;> omega) _⟩
set_option maxRecDepth 100000 in
set_option maxHeartbeats 2000000 in
theorem r8_Of (six : Bool) (a : List UInt8) (ha : a.length = 16) (n : Int) (hn : -9223372036854775808 ≤ n ∧ n ≤ 9223372036854775807) (w : World) :
    Calls Tryz.prog 12 #[.bool six, .agg (arrB a), .int .i64 n] w fun e w' => e = .returned (.agg (pfA (ofP six a n))) ∧ Below w.heap.size w w' := by
  have hm := most_pos six
  have MO := Lib.hid fun W => r8_most six W
  obtain ⟨m, hmm, hM⟩ : ∃ m : Nat, min (max n 0) (most six) = m ∧ m ≤ 128 := ⟨(min (max n 0) (most six)).toNat, by omega, by omega⟩
  have HX : Hid (ofP six a n = ⟨six, first a m, m⟩) := by unfold ofP; rw [hmm]; exact Lib.hid rfl
  have KA := A16.of ha
  have hu16 := Tryz.underlying22
  have huP := Tryz.underlying24
  have hz0 : Hid (first a ((0 : Nat) : Int) = List.replicate 16 0) := Lib.hid (by rw [first_neg (by simp), ha])
  generalize most six = M at MO hmm hm
  go_enter Tryz.func12, Tryz.ntmps12
  go_wp2_with fail
  refine (MO.out _).mono ?_
  rintro e w1 ⟨rfl, hw1⟩
  subst hw1
  have KP := PX.of (p := ⟨six, List.replicate 16 0, (m : Int)⟩) rfl
  go_wp2_with (refine wpList_store_new rfl _ _ _ rfl (pfA ⟨six, List.replicate 16 0, (m : Int)⟩) rfl rfl _ _ KP.info KP.size.symm KP.one ?_)
  go_loopw [8] (fun vi wr => ∃ k : Nat, k ≤ m ∧ vi = .int .i64 k ∧ Hid (OS w wr a ⟨six, first a k, m⟩)) (fun vi _ => m - (intOf vi).toNat)
  case atStart => exact ⟨0, by omega, rfl, Lib.hid (by rw [hz0.out]; exact OS.init w a ⟨six, List.replicate 16 0, (m : Int)⟩)⟩
  case round =>
    obtain ⟨k, hk, rfl, HB⟩ := hrel
    have fl : (first a k).length = 16 := by rw [first_length, ha]
    have c17 := HB.out.b2.p17 fl
    by_cases hlt : k < m
    · have hltI : (k : Int) < m := by omega
      have k128 : k < 128 := by omega
      have B1 : Hid (∀ W, Calls Tryz.prog 16 #[.agg (arrB a), .int .i64 k] W fun e w' => e = .returned (.int .i64 (bitN a k : Nat)) ∧ Below W.heap.size W w') := Lib.hid fun W => by
        have h := r8_Bit a ha k (by omega) W
        rw [bit_nat _ k128] at h
        exact h
      have hb2 := bitN_lt a k
      by_cases h1 : bitN a k = 1
      · have HS := Lib.hid (first_step ha k128)
        rw [h1] at B1 HS
        clear hb2 h1
        obtain ⟨c, hc⟩ : ∃ c, (first a k)[k / 8]? = some c := ⟨_, List.getElem?_eq_getElem (by omega)⟩
        have hg : (first a k).getD (k / 8) 0 = c := by rw [List.getD_eq_getElem?_getD, hc]; rfl
        rw [hg, if_pos rfl] at HS
        have q1 : (k : Int).tdiv 8 = ((k / 8 : Nat) : Int) := by rw [Int.tdiv_eq_ediv_of_nonneg (by omega)]; omega
        have q2 : (k : Int).tmod 8 = ((k % 8 : Nat) : Int) := by rw [Int.tmod_eq_emod_of_nonneg (by omega)]; omega
        have q3 : k / 8 < 16 := by omega
        have q4 : k % 8 < 8 := Nat.mod_lt _ (by omega)
        have hcell : (cellsB (first a k))[k / 8]? = some (.int .u8 (c.toNat : Int)) := by simp [cellsB, hc]
        clear hg hc
        generalize k / 8 = d at q1 q3 HS hcell
        generalize k % 8 = j at q2 q4 HS
        have hd16 : (d : Int) < 16 := by omega
        have AU := Lib.hid (add_u8' c q4)
        have PS := Lib.hid (pfA_set (p := ⟨six, first a k, (m : Int)⟩) fl q3 (UInt8.ofNat (c.toNat + 128 >>> j)))
        go_wp2_with (refine wpList_load_want rfl _ _ rfl w.heap.size rfl _ (arrB a) (0, 0) _ HB.out.b0 hu16 rfl KA.info ?_)
        refine (B1.out _).mono ?_
        rintro e w1 ⟨rfl, hb1⟩
        have HB1 := Lib.hid (HB.out.next hb1)
        clear hb1
        have ce := HB1.out.b2.pA d _ hcell
        have fz := HB1.out.b2.frozen' (1 + d)
        go_wp2_with fail
        refine ⟨⟨k + 1, by omega, by go_num, Lib.hid ?_⟩, by simp [intOf]; omega⟩
        rw [show ((k + 1 : Nat) : Int) = (k : Int) + 1 by omega, HS.out, AU.out]
        refine ⟨HB1.out.b0.other _ _ (by simp <;> omega), HB1.out.b1.other _ _ (by simp <;> omega), ?_, HB1.out.below.setCell (by simp <;> omega) _⟩
        rw [← PS.out]
        exact HB1.out.b2.set _ _
      · have h0 : bitN a k = 0 := by omega
        have HS := Lib.hid (first_same ha k128 h0)
        rw [h0] at B1
        clear hb2 h1 h0
        go_wp2_with (refine wpList_load_want rfl _ _ rfl w.heap.size rfl _ (arrB a) (0, 0) _ HB.out.b0 hu16 rfl KA.info ?_)
        refine (B1.out _).mono ?_
        rintro e w1 ⟨rfl, hb1⟩
        have HB1 := Lib.hid (HB.out.next hb1)
        clear hb1
        go_wp2_with fail
        refine ⟨⟨k + 1, by omega, by go_num, ?_⟩, by simp [intOf]; omega⟩
        rw [show ((k + 1 : Nat) : Int) = (k : Int) + 1 by omega, HS.out]
        exact HB1
    · obtain rfl : k = m := by omega
      have KO := PX.of (p := ⟨six, first a k, (k : Int)⟩) fl
      go_wp2_with (first
        | (refine wpList_load_want rfl _ _ rfl (w.heap.size + 1 + 1) rfl _ (pfA ⟨six, first a k, (k : Int)⟩) (0, 0) _ HB.out.b2 huP rfl KO.info ?_)
        | (refine wpList_store_row rfl _ _ _ rfl (w.heap.size + 1) (pfA ⟨six, first a k, (k : Int)⟩) rfl rfl 24 (pfA zP) HB.out.b1 KO.info KO.size.symm KO.one ?_))
      refine bodyPost_ret (results_cell_row rfl _ _ _ _ _ _ _ rfl (HB.out.b1.setRow _) huP rfl KO.info) rfl ⟨by rw [HX.out], below_setRow HB.out.below (by omega) _⟩

set_option maxRecDepth 100000 in
set_option maxHeartbeats 4000000 in
theorem r8_Common (p q : Pf) (hp : p.addr.length = 16) (hq : q.addr.length = 16) (lp : Len64 p) (lq : Len64 q) (w : World) :
    Calls Tryz.prog 18 #[.agg (pfA p), .agg (pfA q)] w fun e w' => e = .returned (.tuple #[.agg (pfA (if p.six = q.six then common p q else zP)), .bool (decide (p.six = q.six))]) ∧ Below w.heap.size w w' := by
  have huP := Tryz.underlying24
  have KX := PX.of hp
  have KZ := PX.of (p := zP) rfl
  have H0 := Lib.hid (PQ.init w p q)
  have c0 := fun o => ((PP.init w p q).bp.alloc o).p0
  have d0 := fun o => ((PP.init w p q).bq.alloc o).p0
  by_cases hs : p.six = q.six
  · have hr : Hid (pfA (if p.six = q.six then common p q else zP) = pfA (common p q) ∧ decide (p.six = q.six) = true) := Lib.hid ⟨by rw [if_pos hs], decide_eq_true hs⟩
    rw [hr.out.1, hr.out.2]
    have hs' : (p.six == q.six) = true := by simpa using hs
    obtain ⟨M, hM⟩ : ∃ M, mostN p q = M := ⟨_, rfl⟩
    have hMd : M = (min (min p.len q.len) 128).toNat := by rw [← hM]; rfl
    have hM128 : M ≤ 128 := by omega
    have HC : Hid (common p q = ofP p.six p.addr (commonFrom p.addr q.addr 0 M)) := by unfold common; rw [hM]; exact Lib.hid rfl
    have HS6 := Lib.hid hs
    have HMD := Lib.hid hMd
    clear hr hM hs hMd
    go_enter Tryz.func18, Tryz.ntmps18
    go_wp2_with fail
    go_loopw [6] (fun vi wr => ∃ n : Nat, vi = .int .i64 n ∧ n ≤ M ∧ Hid (PQ w wr p q) ∧ Hid (commonFrom p.addr q.addr 0 M = commonFrom p.addr q.addr n (M - n))) (fun vi _ => M - (intOf vi).toNat)
    case atStart => exact ⟨0, rfl, Nat.zero_le _, H0, Lib.hid rfl⟩
    case round =>
      obtain ⟨n, rfl, hn, HQ, HE⟩ := hrel
      have OF := Lib.hid fun W => r8_Of q.six p.addr hp n (by omega) W
      have KO := PX.of (p := ofP q.six p.addr n) (ofP_len _ hp _)
      by_cases hlt : n < M
      · obtain ⟨hv1, hv2, hv3⟩ : (n : Int) < p.len ∧ (n : Int) < q.len ∧ (n : Int) < 128 := by have := HMD.out; omega
        have B1 := Lib.hid fun W => r8_Bit p.addr hp n (by omega) W
        have B2 := Lib.hid fun W => r8_Bit q.addr hq n (by omega) W
        rw [bit_nat p.addr (by omega)] at B1
        rw [bit_nat q.addr (by omega)] at B2
        have HE2 : Hid (commonFrom p.addr q.addr 0 M = if bitN p.addr n = bitN q.addr n then commonFrom p.addr q.addr (n + 1) (M - (n + 1)) else n) := by
          rw [HE.out, show M - n = (M - (n + 1)) + 1 by omega, commonFrom]; exact Lib.hid rfl
        clear HE
        by_cases hxy : bitN p.addr n = bitN q.addr n
        · have HE3 : Hid (commonFrom p.addr q.addr 0 M = commonFrom p.addr q.addr (n + 1) (M - (n + 1))) := by rw [HE2.out, if_pos hxy]; exact Lib.hid rfl
          have hxy' : ((bitN p.addr n : Int) == (bitN q.addr n : Int)) = true := by rw [hxy]; simp
          clear HE2 hxy
          generalize bitN p.addr n = x at B1 hxy'
          generalize bitN q.addr n = y at B2 hxy'
          go_wp2_with fail
          refine wp_region_held_drew (S := fun W => PQ w W p q) (by kernel_rfl) HQ.out.drew (fun hHeld => ?_)
          refine wpAnyH_take (i := 0) (v := ?_) rfl (by kernel_rfl) (by kernel_rfl) (by kernel_rfl) (fun _ _ _ h => h) (Or.inl ⟨by rfl, ?_⟩) (by assumption) ?_
          rotate_left
          · intro w hSw; go_simp; try with_reducible rfl
          simp only [Act.put, List.setIfInBounds_toArray, List.set_cons_zero, List.set_cons_succ, List.getElem_toArray, List.getElem_cons_zero, List.getElem_cons_succ]
          refine wpAnyH_take (i := 1) (v := ?_) rfl (by kernel_rfl) (by kernel_rfl) (by kernel_rfl) (fun _ _ _ h => h) (Or.inl ⟨by rfl, ?_⟩) (by assumption) ?_
          rotate_left
          · intro w hSw; go_simp; try with_reducible rfl
          simp only [Act.put, List.setIfInBounds_toArray, List.set_cons_zero, List.set_cons_succ, List.getElem_toArray, List.getElem_cons_zero, List.getElem_cons_succ]
          refine wpAnyH_take (i := 2) (v := ?_) rfl (by kernel_rfl) (by kernel_rfl) (by kernel_rfl) (fun _ _ _ h => h) (Or.inl ⟨by rfl, ?_⟩) (by assumption) ?_
          rotate_left
          · intro w h; have hf := (h.bp).p17 hp; go_simp; try with_reducible rfl
          simp only [Act.put, List.setIfInBounds_toArray, List.set_cons_zero, List.set_cons_succ, List.getElem_toArray, List.getElem_cons_zero, List.getElem_cons_succ]
          refine wpAnyH_take (i := 3) (v := .bool true) rfl (by kernel_rfl) (by kernel_rfl) (by kernel_rfl) (fun _ _ _ h => h) (Or.inl ⟨by rfl, ?_⟩) (by assumption) ?_
          · intro w hSw; go_simp; try (omega)
          simp only [Act.put, List.setIfInBounds_toArray, List.set_cons_zero, List.set_cons_succ, List.getElem_toArray, List.getElem_cons_zero, List.getElem_cons_succ]
          refine wpAnyH_take (i := 4) (v := ?_) rfl (by kernel_rfl) (by kernel_rfl) (by kernel_rfl) (fun _ _ _ h => h) (Or.inl ⟨by rfl, ?_⟩) (by assumption) ?_
          rotate_left
          · intro w hSw; go_simp; try with_reducible rfl
          simp only [Act.put, List.setIfInBounds_toArray, List.set_cons_zero, List.set_cons_succ, List.getElem_toArray, List.getElem_cons_zero, List.getElem_cons_succ]
          refine wpAnyH_take (i := 5) (v := ?_) rfl (by kernel_rfl) (by kernel_rfl) (by kernel_rfl) (fun _ _ _ h => h) (Or.inl ⟨by rfl, ?_⟩) (by assumption) ?_
          rotate_left
          · intro w hSw; go_simp; try with_reducible rfl
          simp only [Act.put, List.setIfInBounds_toArray, List.set_cons_zero, List.set_cons_succ, List.getElem_toArray, List.getElem_cons_zero, List.getElem_cons_succ]
          refine wpAnyH_take (i := 6) (v := ?_) rfl (by kernel_rfl) (by kernel_rfl) (by kernel_rfl) (fun _ _ _ h => h) (Or.inl ⟨by rfl, ?_⟩) (by assumption) ?_
          rotate_left
          · intro w hSw; go_simp; try with_reducible rfl
          simp only [Act.put, List.setIfInBounds_toArray, List.set_cons_zero, List.set_cons_succ, List.getElem_toArray, List.getElem_cons_zero, List.getElem_cons_succ]
          refine wpAnyH_take (i := 7) (v := ?_) rfl (by kernel_rfl) (by kernel_rfl) (by kernel_rfl) (fun _ _ _ h => h) (Or.inl ⟨by rfl, ?_⟩) (by assumption) ?_
          rotate_left
          · intro w h; have hf := (h.bq).p17 hq; go_simp; try with_reducible rfl
          simp only [Act.put, List.setIfInBounds_toArray, List.set_cons_zero, List.set_cons_succ, List.getElem_toArray, List.getElem_cons_zero, List.getElem_cons_succ]
          refine wpAnyH_take (i := 8) (v := .bool true) rfl (by kernel_rfl) (by kernel_rfl) (by kernel_rfl) (fun _ _ _ h => h) (Or.inl ⟨by rfl, ?_⟩) (by assumption) ?_
          · intro w hSw; go_simp; try (omega)
          simp only [Act.put, List.setIfInBounds_toArray, List.set_cons_zero, List.set_cons_succ, List.getElem_toArray, List.getElem_cons_zero, List.getElem_cons_succ]
          refine wpAnyH_take (i := 9) (v := ?_) rfl (by kernel_rfl) (by kernel_rfl) (by kernel_rfl) (fun _ _ _ h => h) (Or.inl ⟨by rfl, ?_⟩) (by assumption) ?_
          rotate_left
          · intro w hSw; go_simp; try with_reducible rfl
          simp only [Act.put, List.setIfInBounds_toArray, List.set_cons_zero, List.set_cons_succ, List.getElem_toArray, List.getElem_cons_zero, List.getElem_cons_succ]
          refine wpAnyH_take (i := 10) (v := ?_) rfl (by kernel_rfl) (by kernel_rfl) (by kernel_rfl) (fun _ _ _ h => h) (Or.inl ⟨by rfl, ?_⟩) (by assumption) ?_
          rotate_left
          · intro w hSw; go_simp; try with_reducible rfl
          simp only [Act.put, List.setIfInBounds_toArray, List.set_cons_zero, List.set_cons_succ, List.getElem_toArray, List.getElem_cons_zero, List.getElem_cons_succ]
          refine wpAnyH_take (i := 11) (v := ?_) rfl (by kernel_rfl) (by kernel_rfl) (by kernel_rfl) (fun _ _ _ h => h) (Or.inl ⟨by rfl, ?_⟩) (by assumption) ?_
          rotate_left
          · intro w hSw; go_simp; try with_reducible rfl
          simp only [Act.put, List.setIfInBounds_toArray, List.set_cons_zero, List.set_cons_succ, List.getElem_toArray, List.getElem_cons_zero, List.getElem_cons_succ]
          refine wpAnyH_take (i := 12) (v := .bool true) rfl (by kernel_rfl) (by kernel_rfl) (by kernel_rfl) (fun _ _ _ h => h) (Or.inl ⟨by rfl, ?_⟩) (by assumption) ?_
          · intro w hSw; go_simp; try (omega)
          simp only [Act.put, List.setIfInBounds_toArray, List.set_cons_zero, List.set_cons_succ, List.getElem_toArray, List.getElem_cons_zero, List.getElem_cons_succ]
          refine wpAnyH_take (i := 13) (v := ?_) rfl (by kernel_rfl) (by kernel_rfl) (by kernel_rfl) (fun _ _ _ h => h) (Or.inl ⟨by rfl, ?_⟩) (by assumption) ?_
          rotate_left
          · intro w hSw; go_simp; try with_reducible rfl
          simp only [Act.put, List.setIfInBounds_toArray, List.set_cons_zero, List.set_cons_succ, List.getElem_toArray, List.getElem_cons_zero, List.getElem_cons_succ]
          refine wpAnyH_take (i := 14) (v := ?_) rfl (by kernel_rfl) (by kernel_rfl) (by kernel_rfl) (fun _ _ _ h => h) (Or.inl ⟨by rfl, ?_⟩) (by assumption) ?_
          rotate_left
          · intro w hSw; go_simp; try with_reducible rfl
          simp only [Act.put, List.setIfInBounds_toArray, List.set_cons_zero, List.set_cons_succ, List.getElem_toArray, List.getElem_cons_zero, List.getElem_cons_succ]
          refine wpAnyH_take (i := 15) (v := ?_) rfl (by kernel_rfl) (by kernel_rfl) (by kernel_rfl) (fun _ _ _ h => h) (Or.inl ⟨by rfl, ?_⟩) (by assumption) ?_
          rotate_left
          · intro w hSw; go_simp; try with_reducible rfl
          simp only [Act.put, List.setIfInBounds_toArray, List.set_cons_zero, List.set_cons_succ, List.getElem_toArray, List.getElem_cons_zero, List.getElem_cons_succ]
          refine wpAnyH_take (i := 16) rfl (by kernel_rfl) (by kernel_rfl) (by kernel_rfl) (fun _ _ _ h => h) (yieldsIf_load_addr (by rfl) _ rfl (w.heap.size) 1 rfl (p.addr) (hp) (fun w h => (h.bp).pA)) (by assumption) ?_
          simp only [Act.put, List.setIfInBounds_toArray, List.set_cons_zero, List.set_cons_succ, List.getElem_toArray, List.getElem_cons_zero, List.getElem_cons_succ]
          refine wpAnyH_take (i := 17) (v := ?_) rfl (by kernel_rfl) (by kernel_rfl) (by kernel_rfl) (fun _ _ _ h => h) (Or.inl ⟨by rfl, ?_⟩) (by assumption) ?_
          rotate_left
          · intro w hSw; go_simp; try with_reducible rfl
          simp only [Act.put, List.setIfInBounds_toArray, List.set_cons_zero, List.set_cons_succ, List.getElem_toArray, List.getElem_cons_zero, List.getElem_cons_succ]
          refine wpAnyH_take (i := 19) (v := ?_) rfl (by kernel_rfl) (by kernel_rfl) (by kernel_rfl) (fun _ _ _ h => h) (Or.inl ⟨by rfl, ?_⟩) (by assumption) ?_
          rotate_left
          · intro w hSw; go_simp; try with_reducible rfl
          simp only [Act.put, List.setIfInBounds_toArray, List.set_cons_zero, List.set_cons_succ, List.getElem_toArray, List.getElem_cons_zero, List.getElem_cons_succ]
          refine wpAnyH_take (i := 20) rfl (by kernel_rfl) (by kernel_rfl) (by kernel_rfl) (fun _ _ _ h => h) (yieldsIf_load_addr (by rfl) _ rfl (w.heap.size + 1) 1 rfl (q.addr) (hq) (fun w h => (h.bq).pA)) (by assumption) ?_
          simp only [Act.put, List.setIfInBounds_toArray, List.set_cons_zero, List.set_cons_succ, List.getElem_toArray, List.getElem_cons_zero, List.getElem_cons_succ]
          refine wpAnyH_take (i := 21) (v := ?_) rfl (by kernel_rfl) (by kernel_rfl) (by kernel_rfl) (fun _ _ _ h => h) (Or.inl ⟨by rfl, ?_⟩) (by assumption) ?_
          rotate_left
          · intro w hSw; go_simp; try with_reducible rfl
          simp only [Act.put, List.setIfInBounds_toArray, List.set_cons_zero, List.set_cons_succ, List.getElem_toArray, List.getElem_cons_zero, List.getElem_cons_succ]
          refine held_step (i := 18) rfl (by kernel_rfl) (by rfl) (fun K hK => ?_)
          go_simp
          refine (B1.out _).mono ?_; rintro e w1 ⟨rfl, hb1⟩
          go_wp2_with fail
          refine hK.out _ _ (PQ.next (by assumption) hb1) (fun hHeld => ?_)
          clear hK K
          try simp only [Act.put, List.setIfInBounds_toArray, List.set_cons_zero, List.set_cons_succ, List.getElem_toArray, List.getElem_cons_zero, List.getElem_cons_succ]
          refine held_step (i := 22) rfl (by kernel_rfl) (by rfl) (fun K hK => ?_)
          go_simp
          refine (B2.out _).mono ?_; rintro e w2 ⟨rfl, hb2⟩
          go_wp2_with fail
          refine hK.out _ _ (PQ.next (by assumption) hb2) (fun hHeld => ?_)
          clear hK K
          try simp only [Act.put, List.setIfInBounds_toArray, List.set_cons_zero, List.set_cons_succ, List.getElem_toArray, List.getElem_cons_zero, List.getElem_cons_succ]
          refine wpAnyH_take (i := 23) (v := ?_) rfl (by kernel_rfl) (by kernel_rfl) (by kernel_rfl) (fun _ _ _ h => h) (Or.inl ⟨by rfl, ?_⟩) (by assumption) ?_
          rotate_left
          · intro w hSw; go_simp; try with_reducible rfl
          simp only [Act.put, List.setIfInBounds_toArray, List.set_cons_zero, List.set_cons_succ, List.getElem_toArray, List.getElem_cons_zero, List.getElem_cons_succ]
          refine wpAnyH_take (i := 24) (v := ?_) rfl (by kernel_rfl) (by kernel_rfl) (by kernel_rfl) (fun _ _ _ h => h) (Or.inl ⟨by rfl, ?_⟩) (by assumption) ?_
          rotate_left
          · intro w hSw; go_simp; try with_reducible rfl
          simp only [Act.put, List.setIfInBounds_toArray, List.set_cons_zero, List.set_cons_succ, List.getElem_toArray, List.getElem_cons_zero, List.getElem_cons_succ]
          refine wpAnyH_done (by kernel_rfl) ?_ _
          all_goals go_wp2_with fail
          all_goals exact ⟨⟨n + 1, rfl, by omega, Lib.hid (by assumption), HE3⟩, by simp [intOf]; omega⟩
        · have HN : Hid (pfA (common p q) = pfA (ofP q.six p.addr n)) := by rw [HC.out, HE2.out, if_neg hxy, HS6.out]; exact Lib.hid rfl
          have hxy' : ((bitN p.addr n : Int) == (bitN q.addr n : Int)) = false := by rw [beq_eq_false_iff_ne]; omega
          clear HE2 hxy
          generalize bitN p.addr n = x at B1 hxy'
          generalize bitN q.addr n = y at B2 hxy'
          go_wp2_with fail
          refine wp_region_held_drew (S := fun W => PQ w W p q) (by kernel_rfl) HQ.out.drew (fun hHeld => ?_)
          refine wpAnyH_take (i := 0) (v := ?_) rfl (by kernel_rfl) (by kernel_rfl) (by kernel_rfl) (fun _ _ _ h => h) (Or.inl ⟨by rfl, ?_⟩) (by assumption) ?_
          rotate_left
          · intro w hSw; go_simp; try with_reducible rfl
          simp only [Act.put, List.setIfInBounds_toArray, List.set_cons_zero, List.set_cons_succ, List.getElem_toArray, List.getElem_cons_zero, List.getElem_cons_succ]
          refine wpAnyH_take (i := 1) (v := ?_) rfl (by kernel_rfl) (by kernel_rfl) (by kernel_rfl) (fun _ _ _ h => h) (Or.inl ⟨by rfl, ?_⟩) (by assumption) ?_
          rotate_left
          · intro w hSw; go_simp; try with_reducible rfl
          simp only [Act.put, List.setIfInBounds_toArray, List.set_cons_zero, List.set_cons_succ, List.getElem_toArray, List.getElem_cons_zero, List.getElem_cons_succ]
          refine wpAnyH_take (i := 2) (v := ?_) rfl (by kernel_rfl) (by kernel_rfl) (by kernel_rfl) (fun _ _ _ h => h) (Or.inl ⟨by rfl, ?_⟩) (by assumption) ?_
          rotate_left
          · intro w h; have hf := (h.bp).p17 hp; go_simp; try with_reducible rfl
          simp only [Act.put, List.setIfInBounds_toArray, List.set_cons_zero, List.set_cons_succ, List.getElem_toArray, List.getElem_cons_zero, List.getElem_cons_succ]
          refine wpAnyH_take (i := 3) (v := .bool true) rfl (by kernel_rfl) (by kernel_rfl) (by kernel_rfl) (fun _ _ _ h => h) (Or.inl ⟨by rfl, ?_⟩) (by assumption) ?_
          · intro w hSw; go_simp; try (omega)
          simp only [Act.put, List.setIfInBounds_toArray, List.set_cons_zero, List.set_cons_succ, List.getElem_toArray, List.getElem_cons_zero, List.getElem_cons_succ]
          refine wpAnyH_take (i := 4) (v := ?_) rfl (by kernel_rfl) (by kernel_rfl) (by kernel_rfl) (fun _ _ _ h => h) (Or.inl ⟨by rfl, ?_⟩) (by assumption) ?_
          rotate_left
          · intro w hSw; go_simp; try with_reducible rfl
          simp only [Act.put, List.setIfInBounds_toArray, List.set_cons_zero, List.set_cons_succ, List.getElem_toArray, List.getElem_cons_zero, List.getElem_cons_succ]
          refine wpAnyH_take (i := 5) (v := ?_) rfl (by kernel_rfl) (by kernel_rfl) (by kernel_rfl) (fun _ _ _ h => h) (Or.inl ⟨by rfl, ?_⟩) (by assumption) ?_
          rotate_left
          · intro w hSw; go_simp; try with_reducible rfl
          simp only [Act.put, List.setIfInBounds_toArray, List.set_cons_zero, List.set_cons_succ, List.getElem_toArray, List.getElem_cons_zero, List.getElem_cons_succ]
          refine wpAnyH_take (i := 6) (v := ?_) rfl (by kernel_rfl) (by kernel_rfl) (by kernel_rfl) (fun _ _ _ h => h) (Or.inl ⟨by rfl, ?_⟩) (by assumption) ?_
          rotate_left
          · intro w hSw; go_simp; try with_reducible rfl
          simp only [Act.put, List.setIfInBounds_toArray, List.set_cons_zero, List.set_cons_succ, List.getElem_toArray, List.getElem_cons_zero, List.getElem_cons_succ]
          refine wpAnyH_take (i := 7) (v := ?_) rfl (by kernel_rfl) (by kernel_rfl) (by kernel_rfl) (fun _ _ _ h => h) (Or.inl ⟨by rfl, ?_⟩) (by assumption) ?_
          rotate_left
          · intro w h; have hf := (h.bq).p17 hq; go_simp; try with_reducible rfl
          simp only [Act.put, List.setIfInBounds_toArray, List.set_cons_zero, List.set_cons_succ, List.getElem_toArray, List.getElem_cons_zero, List.getElem_cons_succ]
          refine wpAnyH_take (i := 8) (v := .bool true) rfl (by kernel_rfl) (by kernel_rfl) (by kernel_rfl) (fun _ _ _ h => h) (Or.inl ⟨by rfl, ?_⟩) (by assumption) ?_
          · intro w hSw; go_simp; try (omega)
          simp only [Act.put, List.setIfInBounds_toArray, List.set_cons_zero, List.set_cons_succ, List.getElem_toArray, List.getElem_cons_zero, List.getElem_cons_succ]
          refine wpAnyH_take (i := 9) (v := ?_) rfl (by kernel_rfl) (by kernel_rfl) (by kernel_rfl) (fun _ _ _ h => h) (Or.inl ⟨by rfl, ?_⟩) (by assumption) ?_
          rotate_left
          · intro w hSw; go_simp; try with_reducible rfl
          simp only [Act.put, List.setIfInBounds_toArray, List.set_cons_zero, List.set_cons_succ, List.getElem_toArray, List.getElem_cons_zero, List.getElem_cons_succ]
          refine wpAnyH_take (i := 10) (v := ?_) rfl (by kernel_rfl) (by kernel_rfl) (by kernel_rfl) (fun _ _ _ h => h) (Or.inl ⟨by rfl, ?_⟩) (by assumption) ?_
          rotate_left
          · intro w hSw; go_simp; try with_reducible rfl
          simp only [Act.put, List.setIfInBounds_toArray, List.set_cons_zero, List.set_cons_succ, List.getElem_toArray, List.getElem_cons_zero, List.getElem_cons_succ]
          refine wpAnyH_take (i := 11) (v := ?_) rfl (by kernel_rfl) (by kernel_rfl) (by kernel_rfl) (fun _ _ _ h => h) (Or.inl ⟨by rfl, ?_⟩) (by assumption) ?_
          rotate_left
          · intro w hSw; go_simp; try with_reducible rfl
          simp only [Act.put, List.setIfInBounds_toArray, List.set_cons_zero, List.set_cons_succ, List.getElem_toArray, List.getElem_cons_zero, List.getElem_cons_succ]
          refine wpAnyH_take (i := 12) (v := .bool true) rfl (by kernel_rfl) (by kernel_rfl) (by kernel_rfl) (fun _ _ _ h => h) (Or.inl ⟨by rfl, ?_⟩) (by assumption) ?_
          · intro w hSw; go_simp; try (omega)
          simp only [Act.put, List.setIfInBounds_toArray, List.set_cons_zero, List.set_cons_succ, List.getElem_toArray, List.getElem_cons_zero, List.getElem_cons_succ]
          refine wpAnyH_take (i := 13) (v := ?_) rfl (by kernel_rfl) (by kernel_rfl) (by kernel_rfl) (fun _ _ _ h => h) (Or.inl ⟨by rfl, ?_⟩) (by assumption) ?_
          rotate_left
          · intro w hSw; go_simp; try with_reducible rfl
          simp only [Act.put, List.setIfInBounds_toArray, List.set_cons_zero, List.set_cons_succ, List.getElem_toArray, List.getElem_cons_zero, List.getElem_cons_succ]
          refine wpAnyH_take (i := 14) (v := ?_) rfl (by kernel_rfl) (by kernel_rfl) (by kernel_rfl) (fun _ _ _ h => h) (Or.inl ⟨by rfl, ?_⟩) (by assumption) ?_
          rotate_left
          · intro w hSw; go_simp; try with_reducible rfl
          simp only [Act.put, List.setIfInBounds_toArray, List.set_cons_zero, List.set_cons_succ, List.getElem_toArray, List.getElem_cons_zero, List.getElem_cons_succ]
          refine wpAnyH_take (i := 15) (v := ?_) rfl (by kernel_rfl) (by kernel_rfl) (by kernel_rfl) (fun _ _ _ h => h) (Or.inl ⟨by rfl, ?_⟩) (by assumption) ?_
          rotate_left
          · intro w hSw; go_simp; try with_reducible rfl
          simp only [Act.put, List.setIfInBounds_toArray, List.set_cons_zero, List.set_cons_succ, List.getElem_toArray, List.getElem_cons_zero, List.getElem_cons_succ]
          refine wpAnyH_take (i := 16) rfl (by kernel_rfl) (by kernel_rfl) (by kernel_rfl) (fun _ _ _ h => h) (yieldsIf_load_addr (by rfl) _ rfl (w.heap.size) 1 rfl (p.addr) (hp) (fun w h => (h.bp).pA)) (by assumption) ?_
          simp only [Act.put, List.setIfInBounds_toArray, List.set_cons_zero, List.set_cons_succ, List.getElem_toArray, List.getElem_cons_zero, List.getElem_cons_succ]
          refine wpAnyH_take (i := 17) (v := ?_) rfl (by kernel_rfl) (by kernel_rfl) (by kernel_rfl) (fun _ _ _ h => h) (Or.inl ⟨by rfl, ?_⟩) (by assumption) ?_
          rotate_left
          · intro w hSw; go_simp; try with_reducible rfl
          simp only [Act.put, List.setIfInBounds_toArray, List.set_cons_zero, List.set_cons_succ, List.getElem_toArray, List.getElem_cons_zero, List.getElem_cons_succ]
          refine wpAnyH_take (i := 19) (v := ?_) rfl (by kernel_rfl) (by kernel_rfl) (by kernel_rfl) (fun _ _ _ h => h) (Or.inl ⟨by rfl, ?_⟩) (by assumption) ?_
          rotate_left
          · intro w hSw; go_simp; try with_reducible rfl
          simp only [Act.put, List.setIfInBounds_toArray, List.set_cons_zero, List.set_cons_succ, List.getElem_toArray, List.getElem_cons_zero, List.getElem_cons_succ]
          refine wpAnyH_take (i := 20) rfl (by kernel_rfl) (by kernel_rfl) (by kernel_rfl) (fun _ _ _ h => h) (yieldsIf_load_addr (by rfl) _ rfl (w.heap.size + 1) 1 rfl (q.addr) (hq) (fun w h => (h.bq).pA)) (by assumption) ?_
          simp only [Act.put, List.setIfInBounds_toArray, List.set_cons_zero, List.set_cons_succ, List.getElem_toArray, List.getElem_cons_zero, List.getElem_cons_succ]
          refine wpAnyH_take (i := 21) (v := ?_) rfl (by kernel_rfl) (by kernel_rfl) (by kernel_rfl) (fun _ _ _ h => h) (Or.inl ⟨by rfl, ?_⟩) (by assumption) ?_
          rotate_left
          · intro w hSw; go_simp; try with_reducible rfl
          simp only [Act.put, List.setIfInBounds_toArray, List.set_cons_zero, List.set_cons_succ, List.getElem_toArray, List.getElem_cons_zero, List.getElem_cons_succ]
          refine held_step (i := 18) rfl (by kernel_rfl) (by rfl) (fun K hK => ?_)
          go_simp
          refine (B1.out _).mono ?_; rintro e w1 ⟨rfl, hb1⟩
          go_wp2_with fail
          refine hK.out _ _ (PQ.next (by assumption) hb1) (fun hHeld => ?_)
          clear hK K
          try simp only [Act.put, List.setIfInBounds_toArray, List.set_cons_zero, List.set_cons_succ, List.getElem_toArray, List.getElem_cons_zero, List.getElem_cons_succ]
          refine held_step (i := 22) rfl (by kernel_rfl) (by rfl) (fun K hK => ?_)
          go_simp
          refine (B2.out _).mono ?_; rintro e w2 ⟨rfl, hb2⟩
          go_wp2_with fail
          refine hK.out _ _ (PQ.next (by assumption) hb2) (fun hHeld => ?_)
          clear hK K
          try simp only [Act.put, List.setIfInBounds_toArray, List.set_cons_zero, List.set_cons_succ, List.getElem_toArray, List.getElem_cons_zero, List.getElem_cons_succ]
          refine wpAnyH_take (i := 23) (v := ?_) rfl (by kernel_rfl) (by kernel_rfl) (by kernel_rfl) (fun _ _ _ h => h) (Or.inl ⟨by rfl, ?_⟩) (by assumption) ?_
          rotate_left
          · intro w hSw; go_simp; try with_reducible rfl
          simp only [Act.put, List.setIfInBounds_toArray, List.set_cons_zero, List.set_cons_succ, List.getElem_toArray, List.getElem_cons_zero, List.getElem_cons_succ]
          refine wpAnyH_take (i := 24) (v := ?_) rfl (by kernel_rfl) (by kernel_rfl) (by kernel_rfl) (fun _ _ _ h => h) (Or.inl ⟨by rfl, ?_⟩) (by assumption) ?_
          rotate_left
          · intro w hSw; go_simp; try with_reducible rfl
          simp only [Act.put, List.setIfInBounds_toArray, List.set_cons_zero, List.set_cons_succ, List.getElem_toArray, List.getElem_cons_zero, List.getElem_cons_succ]
          refine wpAnyH_done (by kernel_rfl) ?_ _
          all_goals have hF := hHeld
          all_goals have e0 := hF.bp.p0
          all_goals rw [HS6.out] at e0
          all_goals go_wp2_with (refine wpList_load_addr rfl _ rfl w.heap.size 1 rfl p.addr hp hF.bp.pA ?_)
          all_goals refine (OF.out _).mono ?_
          all_goals rintro e w5 ⟨rfl, hb5⟩
          all_goals have hG := hF.next hb5
          all_goals clear hb5
          all_goals go_wp2_with (refine wpList_store_row rfl _ _ _ rfl (w.heap.size + 1 + 1) (pfA (ofP q.six p.addr n)) rfl rfl 24 (pfA zP) hG.br KO.info KO.size.symm KO.one ?_)
          all_goals refine bodyPost_ret (results_cell_tmp rfl _ _ _ _ _ _ _ rfl (hG.br.setRow _) huP rfl KO.info) rfl ⟨by rw [HN.out]; rfl, below_setRow hG.below (by omega) _⟩
      · obtain rfl : n = M := by omega
        have HN : Hid (pfA (common p q) = pfA (ofP q.six p.addr n)) := by rw [HC.out, HE.out, Nat.sub_self, commonFrom, HS6.out]; exact Lib.hid rfl
        by_cases hv1 : (n : Int) < p.len
        · by_cases hv2 : (n : Int) < q.len
          · have hv3 : ¬ (n : Int) < 128 := by have := HMD.out; omega
            go_wp2_with fail
            refine wp_region_held_drew (S := fun W => PQ w W p q) (by kernel_rfl) HQ.out.drew (fun hHeld => ?_)
            refine wpAnyH_take (i := 0) (v := ?_) rfl (by kernel_rfl) (by kernel_rfl) (by kernel_rfl) (fun _ _ _ h => h) (Or.inl ⟨by rfl, ?_⟩) (by assumption) ?_
            rotate_left
            · intro w hSw; go_simp; try with_reducible rfl
            simp only [Act.put, List.setIfInBounds_toArray, List.set_cons_zero, List.set_cons_succ, List.getElem_toArray, List.getElem_cons_zero, List.getElem_cons_succ]
            refine wpAnyH_take (i := 1) (v := ?_) rfl (by kernel_rfl) (by kernel_rfl) (by kernel_rfl) (fun _ _ _ h => h) (Or.inl ⟨by rfl, ?_⟩) (by assumption) ?_
            rotate_left
            · intro w hSw; go_simp; try with_reducible rfl
            simp only [Act.put, List.setIfInBounds_toArray, List.set_cons_zero, List.set_cons_succ, List.getElem_toArray, List.getElem_cons_zero, List.getElem_cons_succ]
            refine wpAnyH_take (i := 2) (v := ?_) rfl (by kernel_rfl) (by kernel_rfl) (by kernel_rfl) (fun _ _ _ h => h) (Or.inl ⟨by rfl, ?_⟩) (by assumption) ?_
            rotate_left
            · intro w h; have hf := (h.bp).p17 hp; go_simp; try with_reducible rfl
            simp only [Act.put, List.setIfInBounds_toArray, List.set_cons_zero, List.set_cons_succ, List.getElem_toArray, List.getElem_cons_zero, List.getElem_cons_succ]
            refine wpAnyH_take (i := 3) (v := .bool true) rfl (by kernel_rfl) (by kernel_rfl) (by kernel_rfl) (fun _ _ _ h => h) (Or.inl ⟨by rfl, ?_⟩) (by assumption) ?_
            · intro w hSw; go_simp; try (omega)
            simp only [Act.put, List.setIfInBounds_toArray, List.set_cons_zero, List.set_cons_succ, List.getElem_toArray, List.getElem_cons_zero, List.getElem_cons_succ]
            refine wpAnyH_take (i := 4) (v := ?_) rfl (by kernel_rfl) (by kernel_rfl) (by kernel_rfl) (fun _ _ _ h => h) (Or.inl ⟨by rfl, ?_⟩) (by assumption) ?_
            rotate_left
            · intro w hSw; go_simp; try with_reducible rfl
            simp only [Act.put, List.setIfInBounds_toArray, List.set_cons_zero, List.set_cons_succ, List.getElem_toArray, List.getElem_cons_zero, List.getElem_cons_succ]
            refine wpAnyH_take (i := 5) (v := ?_) rfl (by kernel_rfl) (by kernel_rfl) (by kernel_rfl) (fun _ _ _ h => h) (Or.inl ⟨by rfl, ?_⟩) (by assumption) ?_
            rotate_left
            · intro w hSw; go_simp; try with_reducible rfl
            simp only [Act.put, List.setIfInBounds_toArray, List.set_cons_zero, List.set_cons_succ, List.getElem_toArray, List.getElem_cons_zero, List.getElem_cons_succ]
            refine wpAnyH_take (i := 6) (v := ?_) rfl (by kernel_rfl) (by kernel_rfl) (by kernel_rfl) (fun _ _ _ h => h) (Or.inl ⟨by rfl, ?_⟩) (by assumption) ?_
            rotate_left
            · intro w hSw; go_simp; try with_reducible rfl
            simp only [Act.put, List.setIfInBounds_toArray, List.set_cons_zero, List.set_cons_succ, List.getElem_toArray, List.getElem_cons_zero, List.getElem_cons_succ]
            refine wpAnyH_take (i := 7) (v := ?_) rfl (by kernel_rfl) (by kernel_rfl) (by kernel_rfl) (fun _ _ _ h => h) (Or.inl ⟨by rfl, ?_⟩) (by assumption) ?_
            rotate_left
            · intro w h; have hf := (h.bq).p17 hq; go_simp; try with_reducible rfl
            simp only [Act.put, List.setIfInBounds_toArray, List.set_cons_zero, List.set_cons_succ, List.getElem_toArray, List.getElem_cons_zero, List.getElem_cons_succ]
            refine wpAnyH_take (i := 8) (v := .bool true) rfl (by kernel_rfl) (by kernel_rfl) (by kernel_rfl) (fun _ _ _ h => h) (Or.inl ⟨by rfl, ?_⟩) (by assumption) ?_
            · intro w hSw; go_simp; try (omega)
            simp only [Act.put, List.setIfInBounds_toArray, List.set_cons_zero, List.set_cons_succ, List.getElem_toArray, List.getElem_cons_zero, List.getElem_cons_succ]
            refine wpAnyH_take (i := 9) (v := ?_) rfl (by kernel_rfl) (by kernel_rfl) (by kernel_rfl) (fun _ _ _ h => h) (Or.inl ⟨by rfl, ?_⟩) (by assumption) ?_
            rotate_left
            · intro w hSw; go_simp; try with_reducible rfl
            simp only [Act.put, List.setIfInBounds_toArray, List.set_cons_zero, List.set_cons_succ, List.getElem_toArray, List.getElem_cons_zero, List.getElem_cons_succ]
            refine wpAnyH_take (i := 10) (v := ?_) rfl (by kernel_rfl) (by kernel_rfl) (by kernel_rfl) (fun _ _ _ h => h) (Or.inl ⟨by rfl, ?_⟩) (by assumption) ?_
            rotate_left
            · intro w hSw; go_simp; try with_reducible rfl
            simp only [Act.put, List.setIfInBounds_toArray, List.set_cons_zero, List.set_cons_succ, List.getElem_toArray, List.getElem_cons_zero, List.getElem_cons_succ]
            refine wpAnyH_take (i := 11) (v := ?_) rfl (by kernel_rfl) (by kernel_rfl) (by kernel_rfl) (fun _ _ _ h => h) (Or.inl ⟨by rfl, ?_⟩) (by assumption) ?_
            rotate_left
            · intro w hSw; go_simp; try with_reducible rfl
            simp only [Act.put, List.setIfInBounds_toArray, List.set_cons_zero, List.set_cons_succ, List.getElem_toArray, List.getElem_cons_zero, List.getElem_cons_succ]
            refine wpAnyH_take (i := 12) (v := .bool false) rfl (by kernel_rfl) (by kernel_rfl) (by kernel_rfl) (fun _ _ _ h => h) (Or.inl ⟨by rfl, ?_⟩) (by assumption) ?_
            · intro w hSw; go_simp; try (omega)
            simp only [Act.put, List.setIfInBounds_toArray, List.set_cons_zero, List.set_cons_succ, List.getElem_toArray, List.getElem_cons_zero, List.getElem_cons_succ]
            refine wpAnyH_take (i := 13) (v := ?_) rfl (by kernel_rfl) (by kernel_rfl) (by kernel_rfl) (fun _ _ _ h => h) (Or.inl ⟨by rfl, ?_⟩) (by assumption) ?_
            rotate_left
            · intro w hSw; go_simp; try with_reducible rfl
            simp only [Act.put, List.setIfInBounds_toArray, List.set_cons_zero, List.set_cons_succ, List.getElem_toArray, List.getElem_cons_zero, List.getElem_cons_succ]
            refine wpAnyH_take (i := 14) (v := ?_) rfl (by kernel_rfl) (by kernel_rfl) (by kernel_rfl) (fun _ _ _ h => h) (Or.inl ⟨by rfl, ?_⟩) (by assumption) ?_
            rotate_left
            · intro w hSw; go_simp; try with_reducible rfl
            simp only [Act.put, List.setIfInBounds_toArray, List.set_cons_zero, List.set_cons_succ, List.getElem_toArray, List.getElem_cons_zero, List.getElem_cons_succ]
            refine wpAnyH_take (i := 15) rfl (by kernel_rfl) (by kernel_rfl) (by kernel_rfl) (fun _ _ _ h => h) (yieldsIf_off (by rfl)) (by assumption) ?_
            simp only [Act.put, List.setIfInBounds_toArray, List.set_cons_zero, List.set_cons_succ, List.getElem_toArray, List.getElem_cons_zero, List.getElem_cons_succ]
            refine wpAnyH_take (i := 16) rfl (by kernel_rfl) (by kernel_rfl) (by kernel_rfl) (fun _ _ _ h => h) (yieldsIf_off (by rfl)) (by assumption) ?_
            simp only [Act.put, List.setIfInBounds_toArray, List.set_cons_zero, List.set_cons_succ, List.getElem_toArray, List.getElem_cons_zero, List.getElem_cons_succ]
            refine wpAnyH_take (i := 17) rfl (by kernel_rfl) (by kernel_rfl) (by kernel_rfl) (fun _ _ _ h => h) (yieldsIf_off (by rfl)) (by assumption) ?_
            simp only [Act.put, List.setIfInBounds_toArray, List.set_cons_zero, List.set_cons_succ, List.getElem_toArray, List.getElem_cons_zero, List.getElem_cons_succ]
            refine wpAnyH_take (i := 18) rfl (by kernel_rfl) (by kernel_rfl) (by kernel_rfl) (fun _ _ _ h => h) (yieldsIf_off (by rfl)) (by assumption) ?_
            simp only [Act.put, List.setIfInBounds_toArray, List.set_cons_zero, List.set_cons_succ, List.getElem_toArray, List.getElem_cons_zero, List.getElem_cons_succ]
            refine wpAnyH_take (i := 19) rfl (by kernel_rfl) (by kernel_rfl) (by kernel_rfl) (fun _ _ _ h => h) (yieldsIf_off (by rfl)) (by assumption) ?_
            simp only [Act.put, List.setIfInBounds_toArray, List.set_cons_zero, List.set_cons_succ, List.getElem_toArray, List.getElem_cons_zero, List.getElem_cons_succ]
            refine wpAnyH_take (i := 20) rfl (by kernel_rfl) (by kernel_rfl) (by kernel_rfl) (fun _ _ _ h => h) (yieldsIf_off (by rfl)) (by assumption) ?_
            simp only [Act.put, List.setIfInBounds_toArray, List.set_cons_zero, List.set_cons_succ, List.getElem_toArray, List.getElem_cons_zero, List.getElem_cons_succ]
            refine wpAnyH_take (i := 21) rfl (by kernel_rfl) (by kernel_rfl) (by kernel_rfl) (fun _ _ _ h => h) (yieldsIf_off (by rfl)) (by assumption) ?_
            simp only [Act.put, List.setIfInBounds_toArray, List.set_cons_zero, List.set_cons_succ, List.getElem_toArray, List.getElem_cons_zero, List.getElem_cons_succ]
            refine wpAnyH_take (i := 22) rfl (by kernel_rfl) (by kernel_rfl) (by kernel_rfl) (fun _ _ _ h => h) (yieldsIf_off (by rfl)) (by assumption) ?_
            simp only [Act.put, List.setIfInBounds_toArray, List.set_cons_zero, List.set_cons_succ, List.getElem_toArray, List.getElem_cons_zero, List.getElem_cons_succ]
            refine wpAnyH_take (i := 23) rfl (by kernel_rfl) (by kernel_rfl) (by kernel_rfl) (fun _ _ _ h => h) (yieldsIf_off (by rfl)) (by assumption) ?_
            simp only [Act.put, List.setIfInBounds_toArray, List.set_cons_zero, List.set_cons_succ, List.getElem_toArray, List.getElem_cons_zero, List.getElem_cons_succ]
            refine wpAnyH_take (i := 24) (v := ?_) rfl (by kernel_rfl) (by kernel_rfl) (by kernel_rfl) (fun _ _ _ h => h) (Or.inl ⟨by rfl, ?_⟩) (by assumption) ?_
            rotate_left
            · intro w hSw; go_simp; try with_reducible rfl
            simp only [Act.put, List.setIfInBounds_toArray, List.set_cons_zero, List.set_cons_succ, List.getElem_toArray, List.getElem_cons_zero, List.getElem_cons_succ]
            refine wpAnyH_done (by kernel_rfl) ?_ _
            all_goals have hF := hHeld
            all_goals have e0 := hF.bp.p0
            all_goals rw [HS6.out] at e0
            all_goals go_wp2_with (refine wpList_load_addr rfl _ rfl w.heap.size 1 rfl p.addr hp hF.bp.pA ?_)
            all_goals refine (OF.out _).mono ?_
            all_goals rintro e w5 ⟨rfl, hb5⟩
            all_goals have hG := hF.next hb5
            all_goals clear hb5
            all_goals go_wp2_with (refine wpList_store_row rfl _ _ _ rfl (w.heap.size + 1 + 1) (pfA (ofP q.six p.addr n)) rfl rfl 24 (pfA zP) hG.br KO.info KO.size.symm KO.one ?_)
            all_goals refine bodyPost_ret (results_cell_tmp rfl _ _ _ _ _ _ _ rfl (hG.br.setRow _) huP rfl KO.info) rfl ⟨by rw [HN.out]; rfl, below_setRow hG.below (by omega) _⟩
          · go_wp2_with fail
            refine wp_region_held_drew (S := fun W => PQ w W p q) (by kernel_rfl) HQ.out.drew (fun hHeld => ?_)
            refine wpAnyH_take (i := 0) (v := ?_) rfl (by kernel_rfl) (by kernel_rfl) (by kernel_rfl) (fun _ _ _ h => h) (Or.inl ⟨by rfl, ?_⟩) (by assumption) ?_
            rotate_left
            · intro w hSw; go_simp; try with_reducible rfl
            simp only [Act.put, List.setIfInBounds_toArray, List.set_cons_zero, List.set_cons_succ, List.getElem_toArray, List.getElem_cons_zero, List.getElem_cons_succ]
            refine wpAnyH_take (i := 1) (v := ?_) rfl (by kernel_rfl) (by kernel_rfl) (by kernel_rfl) (fun _ _ _ h => h) (Or.inl ⟨by rfl, ?_⟩) (by assumption) ?_
            rotate_left
            · intro w hSw; go_simp; try with_reducible rfl
            simp only [Act.put, List.setIfInBounds_toArray, List.set_cons_zero, List.set_cons_succ, List.getElem_toArray, List.getElem_cons_zero, List.getElem_cons_succ]
            refine wpAnyH_take (i := 2) (v := ?_) rfl (by kernel_rfl) (by kernel_rfl) (by kernel_rfl) (fun _ _ _ h => h) (Or.inl ⟨by rfl, ?_⟩) (by assumption) ?_
            rotate_left
            · intro w h; have hf := (h.bp).p17 hp; go_simp; try with_reducible rfl
            simp only [Act.put, List.setIfInBounds_toArray, List.set_cons_zero, List.set_cons_succ, List.getElem_toArray, List.getElem_cons_zero, List.getElem_cons_succ]
            refine wpAnyH_take (i := 3) (v := .bool true) rfl (by kernel_rfl) (by kernel_rfl) (by kernel_rfl) (fun _ _ _ h => h) (Or.inl ⟨by rfl, ?_⟩) (by assumption) ?_
            · intro w hSw; go_simp; try (omega)
            simp only [Act.put, List.setIfInBounds_toArray, List.set_cons_zero, List.set_cons_succ, List.getElem_toArray, List.getElem_cons_zero, List.getElem_cons_succ]
            refine wpAnyH_take (i := 4) (v := ?_) rfl (by kernel_rfl) (by kernel_rfl) (by kernel_rfl) (fun _ _ _ h => h) (Or.inl ⟨by rfl, ?_⟩) (by assumption) ?_
            rotate_left
            · intro w hSw; go_simp; try with_reducible rfl
            simp only [Act.put, List.setIfInBounds_toArray, List.set_cons_zero, List.set_cons_succ, List.getElem_toArray, List.getElem_cons_zero, List.getElem_cons_succ]
            refine wpAnyH_take (i := 5) (v := ?_) rfl (by kernel_rfl) (by kernel_rfl) (by kernel_rfl) (fun _ _ _ h => h) (Or.inl ⟨by rfl, ?_⟩) (by assumption) ?_
            rotate_left
            · intro w hSw; go_simp; try with_reducible rfl
            simp only [Act.put, List.setIfInBounds_toArray, List.set_cons_zero, List.set_cons_succ, List.getElem_toArray, List.getElem_cons_zero, List.getElem_cons_succ]
            refine wpAnyH_take (i := 6) (v := ?_) rfl (by kernel_rfl) (by kernel_rfl) (by kernel_rfl) (fun _ _ _ h => h) (Or.inl ⟨by rfl, ?_⟩) (by assumption) ?_
            rotate_left
            · intro w hSw; go_simp; try with_reducible rfl
            simp only [Act.put, List.setIfInBounds_toArray, List.set_cons_zero, List.set_cons_succ, List.getElem_toArray, List.getElem_cons_zero, List.getElem_cons_succ]
            refine wpAnyH_take (i := 7) (v := ?_) rfl (by kernel_rfl) (by kernel_rfl) (by kernel_rfl) (fun _ _ _ h => h) (Or.inl ⟨by rfl, ?_⟩) (by assumption) ?_
            rotate_left
            · intro w h; have hf := (h.bq).p17 hq; go_simp; try with_reducible rfl
            simp only [Act.put, List.setIfInBounds_toArray, List.set_cons_zero, List.set_cons_succ, List.getElem_toArray, List.getElem_cons_zero, List.getElem_cons_succ]
            refine wpAnyH_take (i := 8) (v := .bool false) rfl (by kernel_rfl) (by kernel_rfl) (by kernel_rfl) (fun _ _ _ h => h) (Or.inl ⟨by rfl, ?_⟩) (by assumption) ?_
            · intro w hSw; go_simp; try (omega)
            simp only [Act.put, List.setIfInBounds_toArray, List.set_cons_zero, List.set_cons_succ, List.getElem_toArray, List.getElem_cons_zero, List.getElem_cons_succ]
            refine wpAnyH_take (i := 9) (v := ?_) rfl (by kernel_rfl) (by kernel_rfl) (by kernel_rfl) (fun _ _ _ h => h) (Or.inl ⟨by rfl, ?_⟩) (by assumption) ?_
            rotate_left
            · intro w hSw; go_simp; try with_reducible rfl
            simp only [Act.put, List.setIfInBounds_toArray, List.set_cons_zero, List.set_cons_succ, List.getElem_toArray, List.getElem_cons_zero, List.getElem_cons_succ]
            refine wpAnyH_take (i := 10) (v := ?_) rfl (by kernel_rfl) (by kernel_rfl) (by kernel_rfl) (fun _ _ _ h => h) (Or.inl ⟨by rfl, ?_⟩) (by assumption) ?_
            rotate_left
            · intro w hSw; go_simp; try with_reducible rfl
            simp only [Act.put, List.setIfInBounds_toArray, List.set_cons_zero, List.set_cons_succ, List.getElem_toArray, List.getElem_cons_zero, List.getElem_cons_succ]
            refine wpAnyH_take (i := 11) rfl (by kernel_rfl) (by kernel_rfl) (by kernel_rfl) (fun _ _ _ h => h) (yieldsIf_off (by rfl)) (by assumption) ?_
            simp only [Act.put, List.setIfInBounds_toArray, List.set_cons_zero, List.set_cons_succ, List.getElem_toArray, List.getElem_cons_zero, List.getElem_cons_succ]
            refine wpAnyH_take (i := 12) rfl (by kernel_rfl) (by kernel_rfl) (by kernel_rfl) (fun _ _ _ h => h) (yieldsIf_off (by rfl)) (by assumption) ?_
            simp only [Act.put, List.setIfInBounds_toArray, List.set_cons_zero, List.set_cons_succ, List.getElem_toArray, List.getElem_cons_zero, List.getElem_cons_succ]
            refine wpAnyH_take (i := 13) (v := ?_) rfl (by kernel_rfl) (by kernel_rfl) (by kernel_rfl) (fun _ _ _ h => h) (Or.inl ⟨by rfl, ?_⟩) (by assumption) ?_
            rotate_left
            · intro w hSw; go_simp; try with_reducible rfl
            simp only [Act.put, List.setIfInBounds_toArray, List.set_cons_zero, List.set_cons_succ, List.getElem_toArray, List.getElem_cons_zero, List.getElem_cons_succ]
            refine wpAnyH_take (i := 14) (v := ?_) rfl (by kernel_rfl) (by kernel_rfl) (by kernel_rfl) (fun _ _ _ h => h) (Or.inl ⟨by rfl, ?_⟩) (by assumption) ?_
            rotate_left
            · intro w hSw; go_simp; try with_reducible rfl
            simp only [Act.put, List.setIfInBounds_toArray, List.set_cons_zero, List.set_cons_succ, List.getElem_toArray, List.getElem_cons_zero, List.getElem_cons_succ]
            refine wpAnyH_take (i := 15) rfl (by kernel_rfl) (by kernel_rfl) (by kernel_rfl) (fun _ _ _ h => h) (yieldsIf_off (by rfl)) (by assumption) ?_
            simp only [Act.put, List.setIfInBounds_toArray, List.set_cons_zero, List.set_cons_succ, List.getElem_toArray, List.getElem_cons_zero, List.getElem_cons_succ]
            refine wpAnyH_take (i := 16) rfl (by kernel_rfl) (by kernel_rfl) (by kernel_rfl) (fun _ _ _ h => h) (yieldsIf_off (by rfl)) (by assumption) ?_
            simp only [Act.put, List.setIfInBounds_toArray, List.set_cons_zero, List.set_cons_succ, List.getElem_toArray, List.getElem_cons_zero, List.getElem_cons_succ]
            refine wpAnyH_take (i := 17) rfl (by kernel_rfl) (by kernel_rfl) (by kernel_rfl) (fun _ _ _ h => h) (yieldsIf_off (by rfl)) (by assumption) ?_
            simp only [Act.put, List.setIfInBounds_toArray, List.set_cons_zero, List.set_cons_succ, List.getElem_toArray, List.getElem_cons_zero, List.getElem_cons_succ]
            refine wpAnyH_take (i := 18) rfl (by kernel_rfl) (by kernel_rfl) (by kernel_rfl) (fun _ _ _ h => h) (yieldsIf_off (by rfl)) (by assumption) ?_
            simp only [Act.put, List.setIfInBounds_toArray, List.set_cons_zero, List.set_cons_succ, List.getElem_toArray, List.getElem_cons_zero, List.getElem_cons_succ]
            refine wpAnyH_take (i := 19) rfl (by kernel_rfl) (by kernel_rfl) (by kernel_rfl) (fun _ _ _ h => h) (yieldsIf_off (by rfl)) (by assumption) ?_
            simp only [Act.put, List.setIfInBounds_toArray, List.set_cons_zero, List.set_cons_succ, List.getElem_toArray, List.getElem_cons_zero, List.getElem_cons_succ]
            refine wpAnyH_take (i := 20) rfl (by kernel_rfl) (by kernel_rfl) (by kernel_rfl) (fun _ _ _ h => h) (yieldsIf_off (by rfl)) (by assumption) ?_
            simp only [Act.put, List.setIfInBounds_toArray, List.set_cons_zero, List.set_cons_succ, List.getElem_toArray, List.getElem_cons_zero, List.getElem_cons_succ]
            refine wpAnyH_take (i := 21) rfl (by kernel_rfl) (by kernel_rfl) (by kernel_rfl) (fun _ _ _ h => h) (yieldsIf_off (by rfl)) (by assumption) ?_
            simp only [Act.put, List.setIfInBounds_toArray, List.set_cons_zero, List.set_cons_succ, List.getElem_toArray, List.getElem_cons_zero, List.getElem_cons_succ]
            refine wpAnyH_take (i := 22) rfl (by kernel_rfl) (by kernel_rfl) (by kernel_rfl) (fun _ _ _ h => h) (yieldsIf_off (by rfl)) (by assumption) ?_
            simp only [Act.put, List.setIfInBounds_toArray, List.set_cons_zero, List.set_cons_succ, List.getElem_toArray, List.getElem_cons_zero, List.getElem_cons_succ]
            refine wpAnyH_take (i := 23) rfl (by kernel_rfl) (by kernel_rfl) (by kernel_rfl) (fun _ _ _ h => h) (yieldsIf_off (by rfl)) (by assumption) ?_
            simp only [Act.put, List.setIfInBounds_toArray, List.set_cons_zero, List.set_cons_succ, List.getElem_toArray, List.getElem_cons_zero, List.getElem_cons_succ]
            refine wpAnyH_take (i := 24) (v := ?_) rfl (by kernel_rfl) (by kernel_rfl) (by kernel_rfl) (fun _ _ _ h => h) (Or.inl ⟨by rfl, ?_⟩) (by assumption) ?_
            rotate_left
            · intro w hSw; go_simp; try with_reducible rfl
            simp only [Act.put, List.setIfInBounds_toArray, List.set_cons_zero, List.set_cons_succ, List.getElem_toArray, List.getElem_cons_zero, List.getElem_cons_succ]
            refine wpAnyH_done (by kernel_rfl) ?_ _
            all_goals have hF := hHeld
            all_goals have e0 := hF.bp.p0
            all_goals rw [HS6.out] at e0
            all_goals go_wp2_with (refine wpList_load_addr rfl _ rfl w.heap.size 1 rfl p.addr hp hF.bp.pA ?_)
            all_goals refine (OF.out _).mono ?_
            all_goals rintro e w5 ⟨rfl, hb5⟩
            all_goals have hG := hF.next hb5
            all_goals clear hb5
            all_goals go_wp2_with (refine wpList_store_row rfl _ _ _ rfl (w.heap.size + 1 + 1) (pfA (ofP q.six p.addr n)) rfl rfl 24 (pfA zP) hG.br KO.info KO.size.symm KO.one ?_)
            all_goals refine bodyPost_ret (results_cell_tmp rfl _ _ _ _ _ _ _ rfl (hG.br.setRow _) huP rfl KO.info) rfl ⟨by rw [HN.out]; rfl, below_setRow hG.below (by omega) _⟩
        · go_wp2_with fail
          refine wp_region_held_drew (S := fun W => PQ w W p q) (by kernel_rfl) HQ.out.drew (fun hHeld => ?_)
          refine wpAnyH_take (i := 0) (v := ?_) rfl (by kernel_rfl) (by kernel_rfl) (by kernel_rfl) (fun _ _ _ h => h) (Or.inl ⟨by rfl, ?_⟩) (by assumption) ?_
          rotate_left
          · intro w hSw; go_simp; try with_reducible rfl
          simp only [Act.put, List.setIfInBounds_toArray, List.set_cons_zero, List.set_cons_succ, List.getElem_toArray, List.getElem_cons_zero, List.getElem_cons_succ]
          refine wpAnyH_take (i := 1) (v := ?_) rfl (by kernel_rfl) (by kernel_rfl) (by kernel_rfl) (fun _ _ _ h => h) (Or.inl ⟨by rfl, ?_⟩) (by assumption) ?_
          rotate_left
          · intro w hSw; go_simp; try with_reducible rfl
          simp only [Act.put, List.setIfInBounds_toArray, List.set_cons_zero, List.set_cons_succ, List.getElem_toArray, List.getElem_cons_zero, List.getElem_cons_succ]
          refine wpAnyH_take (i := 2) (v := ?_) rfl (by kernel_rfl) (by kernel_rfl) (by kernel_rfl) (fun _ _ _ h => h) (Or.inl ⟨by rfl, ?_⟩) (by assumption) ?_
          rotate_left
          · intro w h; have hf := (h.bp).p17 hp; go_simp; try with_reducible rfl
          simp only [Act.put, List.setIfInBounds_toArray, List.set_cons_zero, List.set_cons_succ, List.getElem_toArray, List.getElem_cons_zero, List.getElem_cons_succ]
          refine wpAnyH_take (i := 3) (v := .bool false) rfl (by kernel_rfl) (by kernel_rfl) (by kernel_rfl) (fun _ _ _ h => h) (Or.inl ⟨by rfl, ?_⟩) (by assumption) ?_
          · intro w hSw; go_simp; try (omega)
          simp only [Act.put, List.setIfInBounds_toArray, List.set_cons_zero, List.set_cons_succ, List.getElem_toArray, List.getElem_cons_zero, List.getElem_cons_succ]
          refine wpAnyH_take (i := 4) (v := ?_) rfl (by kernel_rfl) (by kernel_rfl) (by kernel_rfl) (fun _ _ _ h => h) (Or.inl ⟨by rfl, ?_⟩) (by assumption) ?_
          rotate_left
          · intro w hSw; go_simp; try with_reducible rfl
          simp only [Act.put, List.setIfInBounds_toArray, List.set_cons_zero, List.set_cons_succ, List.getElem_toArray, List.getElem_cons_zero, List.getElem_cons_succ]
          refine wpAnyH_take (i := 5) rfl (by kernel_rfl) (by kernel_rfl) (by kernel_rfl) (fun _ _ _ h => h) (yieldsIf_off (by rfl)) (by assumption) ?_
          simp only [Act.put, List.setIfInBounds_toArray, List.set_cons_zero, List.set_cons_succ, List.getElem_toArray, List.getElem_cons_zero, List.getElem_cons_succ]
          refine wpAnyH_take (i := 6) rfl (by kernel_rfl) (by kernel_rfl) (by kernel_rfl) (fun _ _ _ h => h) (yieldsIf_off (by rfl)) (by assumption) ?_
          simp only [Act.put, List.setIfInBounds_toArray, List.set_cons_zero, List.set_cons_succ, List.getElem_toArray, List.getElem_cons_zero, List.getElem_cons_succ]
          refine wpAnyH_take (i := 7) rfl (by kernel_rfl) (by kernel_rfl) (by kernel_rfl) (fun _ _ _ h => h) (yieldsIf_off (by rfl)) (by assumption) ?_
          simp only [Act.put, List.setIfInBounds_toArray, List.set_cons_zero, List.set_cons_succ, List.getElem_toArray, List.getElem_cons_zero, List.getElem_cons_succ]
          refine wpAnyH_take (i := 8) rfl (by kernel_rfl) (by kernel_rfl) (by kernel_rfl) (fun _ _ _ h => h) (yieldsIf_off (by rfl)) (by assumption) ?_
          simp only [Act.put, List.setIfInBounds_toArray, List.set_cons_zero, List.set_cons_succ, List.getElem_toArray, List.getElem_cons_zero, List.getElem_cons_succ]
          refine wpAnyH_take (i := 9) (v := ?_) rfl (by kernel_rfl) (by kernel_rfl) (by kernel_rfl) (fun _ _ _ h => h) (Or.inl ⟨by rfl, ?_⟩) (by assumption) ?_
          rotate_left
          · intro w hSw; go_simp; try with_reducible rfl
          simp only [Act.put, List.setIfInBounds_toArray, List.set_cons_zero, List.set_cons_succ, List.getElem_toArray, List.getElem_cons_zero, List.getElem_cons_succ]
          refine wpAnyH_take (i := 10) (v := ?_) rfl (by kernel_rfl) (by kernel_rfl) (by kernel_rfl) (fun _ _ _ h => h) (Or.inl ⟨by rfl, ?_⟩) (by assumption) ?_
          rotate_left
          · intro w hSw; go_simp; try with_reducible rfl
          simp only [Act.put, List.setIfInBounds_toArray, List.set_cons_zero, List.set_cons_succ, List.getElem_toArray, List.getElem_cons_zero, List.getElem_cons_succ]
          refine wpAnyH_take (i := 11) rfl (by kernel_rfl) (by kernel_rfl) (by kernel_rfl) (fun _ _ _ h => h) (yieldsIf_off (by rfl)) (by assumption) ?_
          simp only [Act.put, List.setIfInBounds_toArray, List.set_cons_zero, List.set_cons_succ, List.getElem_toArray, List.getElem_cons_zero, List.getElem_cons_succ]
          refine wpAnyH_take (i := 12) rfl (by kernel_rfl) (by kernel_rfl) (by kernel_rfl) (fun _ _ _ h => h) (yieldsIf_off (by rfl)) (by assumption) ?_
          simp only [Act.put, List.setIfInBounds_toArray, List.set_cons_zero, List.set_cons_succ, List.getElem_toArray, List.getElem_cons_zero, List.getElem_cons_succ]
          refine wpAnyH_take (i := 13) (v := ?_) rfl (by kernel_rfl) (by kernel_rfl) (by kernel_rfl) (fun _ _ _ h => h) (Or.inl ⟨by rfl, ?_⟩) (by assumption) ?_
          rotate_left
          · intro w hSw; go_simp; try with_reducible rfl
          simp only [Act.put, List.setIfInBounds_toArray, List.set_cons_zero, List.set_cons_succ, List.getElem_toArray, List.getElem_cons_zero, List.getElem_cons_succ]
          refine wpAnyH_take (i := 14) (v := ?_) rfl (by kernel_rfl) (by kernel_rfl) (by kernel_rfl) (fun _ _ _ h => h) (Or.inl ⟨by rfl, ?_⟩) (by assumption) ?_
          rotate_left
          · intro w hSw; go_simp; try with_reducible rfl
          simp only [Act.put, List.setIfInBounds_toArray, List.set_cons_zero, List.set_cons_succ, List.getElem_toArray, List.getElem_cons_zero, List.getElem_cons_succ]
          refine wpAnyH_take (i := 15) rfl (by kernel_rfl) (by kernel_rfl) (by kernel_rfl) (fun _ _ _ h => h) (yieldsIf_off (by rfl)) (by assumption) ?_
          simp only [Act.put, List.setIfInBounds_toArray, List.set_cons_zero, List.set_cons_succ, List.getElem_toArray, List.getElem_cons_zero, List.getElem_cons_succ]
          refine wpAnyH_take (i := 16) rfl (by kernel_rfl) (by kernel_rfl) (by kernel_rfl) (fun _ _ _ h => h) (yieldsIf_off (by rfl)) (by assumption) ?_
          simp only [Act.put, List.setIfInBounds_toArray, List.set_cons_zero, List.set_cons_succ, List.getElem_toArray, List.getElem_cons_zero, List.getElem_cons_succ]
          refine wpAnyH_take (i := 17) rfl (by kernel_rfl) (by kernel_rfl) (by kernel_rfl) (fun _ _ _ h => h) (yieldsIf_off (by rfl)) (by assumption) ?_
          simp only [Act.put, List.setIfInBounds_toArray, List.set_cons_zero, List.set_cons_succ, List.getElem_toArray, List.getElem_cons_zero, List.getElem_cons_succ]
          refine wpAnyH_take (i := 18) rfl (by kernel_rfl) (by kernel_rfl) (by kernel_rfl) (fun _ _ _ h => h) (yieldsIf_off (by rfl)) (by assumption) ?_
          simp only [Act.put, List.setIfInBounds_toArray, List.set_cons_zero, List.set_cons_succ, List.getElem_toArray, List.getElem_cons_zero, List.getElem_cons_succ]
          refine wpAnyH_take (i := 19) rfl (by kernel_rfl) (by kernel_rfl) (by kernel_rfl) (fun _ _ _ h => h) (yieldsIf_off (by rfl)) (by assumption) ?_
          simp only [Act.put, List.setIfInBounds_toArray, List.set_cons_zero, List.set_cons_succ, List.getElem_toArray, List.getElem_cons_zero, List.getElem_cons_succ]
          refine wpAnyH_take (i := 20) rfl (by kernel_rfl) (by kernel_rfl) (by kernel_rfl) (fun _ _ _ h => h) (yieldsIf_off (by rfl)) (by assumption) ?_
          simp only [Act.put, List.setIfInBounds_toArray, List.set_cons_zero, List.set_cons_succ, List.getElem_toArray, List.getElem_cons_zero, List.getElem_cons_succ]
          refine wpAnyH_take (i := 21) rfl (by kernel_rfl) (by kernel_rfl) (by kernel_rfl) (fun _ _ _ h => h) (yieldsIf_off (by rfl)) (by assumption) ?_
          simp only [Act.put, List.setIfInBounds_toArray, List.set_cons_zero, List.set_cons_succ, List.getElem_toArray, List.getElem_cons_zero, List.getElem_cons_succ]
          refine wpAnyH_take (i := 22) rfl (by kernel_rfl) (by kernel_rfl) (by kernel_rfl) (fun _ _ _ h => h) (yieldsIf_off (by rfl)) (by assumption) ?_
          simp only [Act.put, List.setIfInBounds_toArray, List.set_cons_zero, List.set_cons_succ, List.getElem_toArray, List.getElem_cons_zero, List.getElem_cons_succ]
          refine wpAnyH_take (i := 23) rfl (by kernel_rfl) (by kernel_rfl) (by kernel_rfl) (fun _ _ _ h => h) (yieldsIf_off (by rfl)) (by assumption) ?_
          simp only [Act.put, List.setIfInBounds_toArray, List.set_cons_zero, List.set_cons_succ, List.getElem_toArray, List.getElem_cons_zero, List.getElem_cons_succ]
          refine wpAnyH_take (i := 24) (v := ?_) rfl (by kernel_rfl) (by kernel_rfl) (by kernel_rfl) (fun _ _ _ h => h) (Or.inl ⟨by rfl, ?_⟩) (by assumption) ?_
          rotate_left
          · intro w hSw; go_simp; try with_reducible rfl
          simp only [Act.put, List.setIfInBounds_toArray, List.set_cons_zero, List.set_cons_succ, List.getElem_toArray, List.getElem_cons_zero, List.getElem_cons_succ]
          refine wpAnyH_done (by kernel_rfl) ?_ _
          all_goals have hF := hHeld
          all_goals have e0 := hF.bp.p0
          all_goals rw [HS6.out] at e0
          all_goals go_wp2_with (refine wpList_load_addr rfl _ rfl w.heap.size 1 rfl p.addr hp hF.bp.pA ?_)
          all_goals refine (OF.out _).mono ?_
          all_goals rintro e w5 ⟨rfl, hb5⟩
          all_goals have hG := hF.next hb5
          all_goals clear hb5
          all_goals go_wp2_with (refine wpList_store_row rfl _ _ _ rfl (w.heap.size + 1 + 1) (pfA (ofP q.six p.addr n)) rfl rfl 24 (pfA zP) hG.br KO.info KO.size.symm KO.one ?_)
          all_goals refine bodyPost_ret (results_cell_tmp rfl _ _ _ _ _ _ _ rfl (hG.br.setRow _) huP rfl KO.info) rfl ⟨by rw [HN.out]; rfl, below_setRow hG.below (by omega) _⟩
  · have hr : Hid (pfA (if p.six = q.six then common p q else zP) = pfA zP ∧ decide (p.six = q.six) = false) := Lib.hid ⟨by rw [if_neg hs], decide_eq_false hs⟩
    rw [hr.out.1, hr.out.2]
    have hz : pfA zP = #[.bool false, .int .u8 0, .int .u8 0, .int .u8 0, .int .u8 0, .int .u8 0, .int .u8 0, .int .u8 0, .int .u8 0, .int .u8 0, .int .u8 0, .int .u8 0, .int .u8 0, .int .u8 0, .int .u8 0, .int .u8 0, .int .u8 0, .int .i64 0] := rfl
    have HZ := Lib.hid (And.intro H0.out.br H0.out.below)
    have KZL := And.intro KZ.info KZ.one
    rw [hz] at HZ KZL
    clear H0
    have hs' : (p.six == q.six) = false := by simpa using hs
    clear hs
    go_enter Tryz.func18, Tryz.ntmps18
    go_wp2_with (refine wpList_store_row rfl _ _ _ rfl (w.heap.size + 1 + 1) #[.bool false, .int .u8 0, .int .u8 0, .int .u8 0, .int .u8 0, .int .u8 0, .int .u8 0, .int .u8 0, .int .u8 0, .int .u8 0, .int .u8 0, .int .u8 0, .int .u8 0, .int .u8 0, .int .u8 0, .int .u8 0, .int .u8 0, .int .i64 0] rfl rfl 24 #[.bool false, .int .u8 0, .int .u8 0, .int .u8 0, .int .u8 0, .int .u8 0, .int .u8 0, .int .u8 0, .int .u8 0, .int .u8 0, .int .u8 0, .int .u8 0, .int .u8 0, .int .u8 0, .int .u8 0, .int .u8 0, .int .u8 0, .int .i64 0] HZ.out.1 KZL.1 rfl KZL.2 ?_)
    refine bodyPost_ret (results_cell_tmp rfl _ _ _ _ _ _ _ rfl (HZ.out.1.setRow _) huP rfl KZL.1) rfl ⟨by rw [hz]; rfl, below_setRow HZ.out.2 (by omega) _⟩
end Go.Proofs.YtjbolphfelakeaaGreatDoor

/- The document's prefixes: Compare, Show, Parse; footplateref06.Show. -/
namespace Go.Proofs.YtjbolphfelakeaaGreatDoor
set_option linter.unusedVariables false
set_option linter.unusedSimpArgs false
open Go.RowKit Go.Shelf Go.Proofs Go.OctetPlain Go.ColonPlain Go.PrefixPlain

theorem cmpB_step {a b : List UInt8} {k : Nat} {c d : UInt8} (h1 : a[k]? = some c) (h2 : b[k]? = some d) : cmpB (a.drop k) (b.drop k) = if c < d then -1 else if d < c then 1 else cmpB (a.drop (k + 1)) (b.drop (k + 1)) := by
  obtain ⟨g1, e1⟩ := List.getElem?_eq_some_iff.1 h1
  obtain ⟨g2, e2⟩ := List.getElem?_eq_some_iff.1 h2
  rw [List.drop_eq_getElem_cons g1, List.drop_eq_getElem_cons g2, e1, e2, cmpB]
set_option maxRecDepth 100000 in
set_option maxHeartbeats 2000000 in
theorem r8_Compare (p q : Pf) (hp : p.addr.length = 16) (hq : q.addr.length = 16) (lp : Len64 p) (lq : Len64 q) (w : World) :
    Calls Tryz.prog 22 #[.agg (pfA p), .agg (pfA q)] w fun e w' => e = .returned (.int .i64 (cmpP p q)) ∧ Below w.heap.size w w' := by
  have H0 := Lib.hid (PP.init w p q)
  have c0 := H0.out.bp.p0
  have d0 := H0.out.bq.p0
  by_cases hs : p.six = q.six
  · have hs' : (p.six == q.six) = true := by simpa using hs
    have HC : Hid (cmpP p q = if cmpB p.addr q.addr ≠ 0 then cmpB p.addr q.addr else cmpI p.len q.len) := Lib.hid (by unfold cmpP; rw [if_neg (by simpa using hs)])
    clear hs
    go_enter Tryz.func22, Tryz.ntmps22
    go_wp2_with fail
    go_loopw [5] (fun vi wr => ∃ k : Nat, k ≤ 16 ∧ vi = .int .i64 k ∧ Hid (cmpB p.addr q.addr = cmpB (p.addr.drop k) (q.addr.drop k)) ∧ Hid (PP w wr p q)) (fun vi _ => 16 - (intOf vi).toNat)
    case atStart => exact ⟨0, by omega, rfl, Lib.hid rfl, H0⟩
    case round =>
      obtain ⟨k, hk, rfl, HE, HB⟩ := hrel
      by_cases hlt : k < 16
      · obtain ⟨c, hc⟩ : ∃ c, p.addr[k]? = some c := ⟨_, List.getElem?_eq_getElem (by omega)⟩
        obtain ⟨d, hd⟩ : ∃ d, q.addr[k]? = some d := ⟨_, List.getElem?_eq_getElem (by omega)⟩
        have ce := HB.out.bp.pA k _ (show (cellsB p.addr)[k]? = some (.int .u8 (c.toNat : Int)) by simp [cellsB, hc])
        have de := HB.out.bq.pA k _ (show (cellsB q.addr)[k]? = some (.int .u8 (d.toNat : Int)) by simp [cellsB, hd])
        have hk16 : (k : Int) < 16 := by omega
        have HS := Lib.hid (cmpB_step hc hd)
        have ml := UInt8.lt_iff_toNat_lt (a := c) (b := d)
        have mg := UInt8.lt_iff_toNat_lt (a := d) (b := c)
        clear hc hd
        by_cases h1 : c < d
        · have hv : (c.toNat : Int) < (d.toNat : Int) := by have := ml.1 h1; omega
          have hr : Hid (cmpP p q = -1) := Lib.hid (by rw [HC.out, HE.out, HS.out, if_pos h1]; rfl)
          clear ml mg h1 HS HE
          go_wp2_with fail
          go_quiet (fail)
          go_wp2_with fail
          go_ret
          exact ⟨by rw [hr.out]; rfl, below_drewN HB.out.below _⟩
        · have hv : ¬ (c.toNat : Int) < (d.toNat : Int) := by intro h; exact h1 (ml.2 (by omega))
          by_cases h2 : d < c
          · have hv2 : (d.toNat : Int) < (c.toNat : Int) := by have := mg.1 h2; omega
            have hr : Hid (cmpP p q = 1) := Lib.hid (by rw [HC.out, HE.out, HS.out, if_neg h1, if_pos h2]; rfl)
            clear ml mg h1 h2 HS HE
            go_wp2_with fail
            go_quiet (fail)
            go_wp2_with fail
            go_quiet (fail)
            go_wp2_with fail
            go_ret
            exact ⟨by rw [hr.out]; rfl, below_drewN (below_drewN HB.out.below _) _⟩
          · have hv2 : ¬ (d.toNat : Int) < (c.toNat : Int) := by intro h; exact h2 (mg.2 (by omega))
            have HE2 : Hid (cmpB p.addr q.addr = cmpB (p.addr.drop (k + 1)) (q.addr.drop (k + 1))) := Lib.hid (by rw [HE.out, HS.out, if_neg h1, if_neg h2])
            clear ml mg h1 h2 HS HE
            go_wp2_with fail
            go_quiet (fail)
            go_wp2_with fail
            go_quiet (fail)
            go_wp2_with fail
            exact ⟨⟨k + 1, by omega, by go_num, HE2, Lib.hid (HB.out.next (below_drewN (Below.refl _ _) _))⟩, by simp [intOf]; omega⟩
      · obtain rfl : k = 16 := by omega
        have hz : cmpB (p.addr.drop 16) (q.addr.drop 16) = 0 := by
          rw [List.drop_eq_nil_of_le (by omega), List.drop_eq_nil_of_le (by omega)]; rfl
        have HI : Hid (cmpP p q = cmpI p.len q.len) := Lib.hid (by rw [HC.out, HE.out, hz]; rfl)
        clear HC HE hz
        have c17 := HB.out.bp.p17 hp
        have d17 := HB.out.bq.p17 hq
        by_cases h1 : p.len < q.len
        · have hr : Hid (cmpP p q = -1) := Lib.hid (by rw [HI.out]; unfold cmpI; rw [if_pos h1])
          go_wp2_with fail
          go_ret
          exact ⟨by rw [hr.out]; rfl, HB.out.below⟩
        · by_cases h2 : q.len < p.len
          · have hr : Hid (cmpP p q = 1) := Lib.hid (by rw [HI.out]; unfold cmpI; rw [if_neg h1, if_pos h2])
            go_wp2_with fail
            go_ret
            exact ⟨by rw [hr.out]; rfl, HB.out.below⟩
          · have hr : Hid (cmpP p q = 0) := Lib.hid (by rw [HI.out]; unfold cmpI; rw [if_neg h1, if_neg h2])
            go_wp2_with fail
            go_ret
            exact ⟨by rw [hr.out]; rfl, HB.out.below⟩
  · have hs' : (p.six == q.six) = false := by simpa using hs
    have HC : Hid (cmpP p q = if q.six then -1 else 1) := Lib.hid (by unfold cmpP; rw [if_pos (by simpa using hs)])
    rw [HC.out]
    clear hs HC
    cases hq6 : q.six
    all_goals rw [hq6] at d0 hs'
    all_goals clear hq6
    all_goals
      go_enter Tryz.func22, Tryz.ntmps22
      go_wp2_with fail
      go_ret
      exact ⟨rfl, H0.out.below⟩

theorem dotJ_app1 (x : List UInt8) : ∀ (l : List (List UInt8)), l ≠ [] → dotJ (l ++ [x]) = dotJ l ++ 46 :: x
  | [], h => absurd rfl h
  | [n], _ => rfl
  | n :: m :: r, _ => by
    have := dotJ_app1 x (m :: r) (by simp)
    simp only [List.cons_append, dotJ] at this ⊢
    rw [this]; simp
theorem dotJ_len : ∀ (l : List UInt8), (dotJ (decs l)).length ≤ 4 * l.length
  | [] => by simp [decs, dotJ]
  | [c] => by have := dec_len3 c; simp [decs, dotJ]; omega
  | c :: d :: r => by
    have h1 := dec_len3 c
    have h2 := dotJ_len (d :: r)
    simp only [decs, List.map_cons, dotJ, List.length_append, List.length_cons] at h2 ⊢
    omega
set_option maxRecDepth 100000 in
set_option maxHeartbeats 1000000 in
theorem r6_Show (a : List UInt8) (ha : a.length = 4) (w : World) :
    Calls Tryz.prog 31 #[.agg (arrB a)] w fun e w' => e = .returned (.string (str (showD a))) ∧ Below w.heap.size w w' := by
  go_enter Tryz.func31, Tryz.ntmps31
  go_wp2_with fail
  go_loopw [3, 4] (fun vs vi wr => ∃ k : Nat, vi = .int .i64 k ∧ k ≤ 4 ∧ vs = .string (str (dotJ (decs (a.take k)))) ∧ Hid (Blk wr w.heap.size 42 (arrB a)) ∧ Hid (Below w.heap.size w wr)) (fun _ vi _ => 4 - (intOf vi).toNat)
  case atStart => exact ⟨0, rfl, by omega, rfl, Lib.hid (Blk.new _ _ _), Lib.hid (belowA w _)⟩
  case round =>
    obtain ⟨k, rfl, hk4, rfl, HA, HB⟩ := hrel
    by_cases hlt : k < 4
    · obtain ⟨c, hc⟩ : ∃ c, a[k]? = some c := ⟨_, List.getElem?_eq_getElem (by omega)⟩
      have ce := (HA.out.cell k).trans (arrB_get hc)
      have hcl := c.toNat_lt
      have DG : Hid (∀ W, Calls Tryz.prog 33 #[.int .i64 (c.toNat : Int)] W fun e w' => e = .returned (.string (str (Lib.decDigits c.toNat))) ∧ w' = W) := Lib.hid fun W => by
        have h := ref_Digits (c.toNat : Int) (by omega) W
        rw [itoa_nat] at h
        exact h
      have htk : decs (a.take (k + 1)) = decs (a.take k) ++ [Lib.decDigits c.toNat] := by
        obtain ⟨g1, g2⟩ := List.getElem?_eq_some_iff.1 hc
        rw [List.take_succ_eq_append_getElem g1, g2]; simp [decs]
      have hpl := dotJ_len (a.take k)
      rw [List.length_take] at hpl
      have hln := dec_len3 c
      have hh : (str (Lib.decDigits c.toNat)).size = (Lib.decDigits c.toNat).length := str_size _
      have hps : (str (dotJ (decs (a.take k)))).size = (dotJ (decs (a.take k))).length := str_size _
      by_cases hk0 : 0 < k
      · have hk0' : (0 : Int) < k := by omega
        have hj : dotJ (decs (a.take (k + 1))) = dotJ (decs (a.take k)) ++ 46 :: Lib.decDigits c.toNat := by
          rw [htk]; exact dotJ_app1 _ _ (fun h => by have := congrArg List.length h; simp [decs, ha] at this; omega)
        have HJ := Lib.hid hj
        clear htk hj hc
        generalize dotJ (decs (a.take k)) = Pj at HJ hpl hps ⊢
        have h3 : (str (Pj ++ [46])).size = Pj.length + 1 := by rw [str_size]; simp
        have hsep : str Pj ++ ⟨#[46]⟩ = str (Pj ++ [46]) := str_app Pj [46]
        generalize Lib.decDigits c.toNat = D at DG hln hh HJ
        go_wp2_with fail
        refine (DG.out _).mono ?_
        rintro e w1 ⟨rfl, hw1⟩
        subst hw1
        go_wp2_with fail
        exact ⟨⟨k + 1, by go_num, by omega, by rw [HJ.out, str_app]; simp, HA, HB⟩, by simp [intOf]; omega⟩
      · obtain rfl : k = 0 := by omega
        have hj : dotJ (decs (a.take (0 + 1))) = Lib.decDigits c.toNat := by rw [htk]; rfl
        have hj0 : dotJ (decs (a.take 0)) = [] := rfl
        have HJ := Lib.hid hj
        rw [hj0] at hps ⊢
        have hps : (str []).size = 0 := rfl
        clear htk hj hc hj0 hpl
        generalize Lib.decDigits c.toNat = D at DG hln hh HJ
        go_wp2_with fail
        refine (DG.out _).mono ?_
        rintro e w1 ⟨rfl, hw1⟩
        subst hw1
        go_wp2_with fail
        exact ⟨⟨0 + 1, by go_num, by omega, by rw [HJ.out, str_app]; simp, HA, HB⟩, by simp [intOf]⟩
    · obtain rfl : k = 4 := by omega
      have hR : Hid (dotJ (decs (a.take 4)) = showD a) := Lib.hid (by rw [List.take_of_length_le (by omega)]; rfl)
      go_wp2_with fail
      go_ret
      exact ⟨by rw [← hR.out]; rfl, HB.out⟩
end Go.Proofs.YtjbolphfelakeaaGreatDoor

/- The document's prefixes: Show, Parse. -/
namespace Go.Proofs.YtjbolphfelakeaaGreatDoor
set_option linter.unusedVariables false
set_option linter.unusedSimpArgs false
open Go.RowKit Go.Shelf Go.Proofs Go.OctetPlain Go.ColonPlain Go.PrefixPlain

/-- a whole array stored into the block that was made last, its number spelled otherwise -/
theorem wpList_store_new' {P : Program} {ops : Array Oper} {rest : List Oper} {o : Oper} {a : Act} {w : World} {Q : Exit → Act → World → Prop} (g : Nat) (hg : w.heap.size = g) (hgd : o.guard = none) (ty : TypeId) (x y : Operand) (ho : o.op = .store ty x y)
    (cells : Array Value) (hx : a.eval x = .pointer (some ⟨g, 0, none⟩)) (hy : a.eval y = .agg cells) (t : TypeId) (old : Array Value) (hi : (P.info? ty).map (·.size) = some cells.size) (hold : old.size = cells.size) (h1 : cells.all (·.oneCell') = true)
    (h : wpList P ops Q rest (a.put o.dst undef) (w.alloc (.cells cells t))) : wpList P ops Q (o :: rest) a (w.alloc (.cells old t)) := by
  subst hg
  exact wpList_store_new hgd ty x y ho cells hx hy t old hi hold h1 h
structure SH (w W : World) (p : Pf) : Prop where
  bp : Blk W w.heap.size 24 (pfA p)
  ba : Blk W (w.heap.size + 1) 22 (arrB p.addr)
  below : Below w.heap.size w W
theorem SH.next {w W W' : World} {p : Pf} (h : SH w W p) (hb : Below W.heap.size W W') : SH w W' p := ⟨h.bp.below hb h.bp.lt, h.ba.below hb h.ba.lt, h.below.trans (hb.mono h.below.size)⟩
theorem SH.init (w : World) (p : Pf) : SH w ((w.alloc (.cells (pfA p) 24)).alloc (.cells (arrB p.addr) 22)) p := by
  refine ⟨(Blk.new _ _ _).alloc _, ?_, (belowA w _).alloc (by simp) _⟩
  have h := Blk.new (w.alloc (.cells (pfA p) 24)) 22 (arrB p.addr)
  rw [World.size_alloc] at h
  exact h
set_option maxRecDepth 100000 in
set_option maxHeartbeats 2000000 in
theorem r8_Show (p : Pf) (hp : p.addr.length = 16) (lp : Len64 p) (w : World) :
    Calls Tryz.prog 10 #[.agg (pfA p)] w fun e w' => e = .returned (.string (str (showP p))) ∧ Below w.heap.size w w' := by
  have hu16 := Tryz.underlying22
  have KA := A16.of hp
  have H0 := Lib.hid (⟨Blk.new _ _ _, belowA w _⟩ : CS w (w.alloc (.cells (pfA p) 24)) p)
  have HI := Lib.hid (SH.init w p)
  have c0 := HI.out.bp.p0
  have hA0 := (SH.init w p).ba
  obtain ⟨x0, x1, x2, x3, x4, x5, x6, x7, x8, x9, x10, x11, x12, x13, x14, x15, hx⟩ := list16 hp
  have hcl := hA0
  rw [hx] at hcl
  have a0 := (hcl.cell 0).trans (arrB_get rfl)
  have a1 := (hcl.cell 1).trans (arrB_get rfl)
  have a2 := (hcl.cell 2).trans (arrB_get rfl)
  have a3 := (hcl.cell 3).trans (arrB_get rfl)
  rw [← hx] at a0 a1 a2 a3
  have DS : Hid (∀ W, Calls Tryz.prog 31 #[.agg #[.int .u8 (x0.toNat : Int), .int .u8 (x1.toNat : Int), .int .u8 (x2.toNat : Int), .int .u8 (x3.toNat : Int)]] W fun e w' => e = .returned (.string (str (showD [x0, x1, x2, x3]))) ∧ Below W.heap.size W w') := Lib.hid fun W => r6_Show [x0, x1, x2, x3] rfl W
  have SA := Lib.hid fun W => ref_Show p.addr hp W
  have OD := Lib.hid fun W => ref_Digits p.len lp W
  have HX : Hid (showD (p.addr.take 4) = showD [x0, x1, x2, x3]) := by rw [hx]; exact Lib.hid rfl
  have hl1 := text_len hp
  have hl2 := itoa_len (n := p.len) lp
  have s1 : (str (textP p)).size = (textP p).length := str_size _
  have s2 : (str (Lib.itoa p.len)).size = (Lib.itoa p.len).length := str_size _
  have hslash : (⟨#[47]⟩ : ByteArray).size = 1 := rfl
  have HCAT : Hid (str (textP p) ++ ⟨#[47]⟩ ++ str (Lib.itoa p.len) = str (showP p)) := by
    refine Lib.hid ?_
    show str (textP p) ++ str [47] ++ str (Lib.itoa p.len) = _
    rw [str_app, str_app]; unfold showP; simp
  clear hcl hx hA0
  go_enter Tryz.func10, Tryz.ntmps10
  go_wp2_with (first
    | (refine wpList_load_addr rfl _ rfl w.heap.size 1 rfl p.addr hp H0.out.b.pA ?_)
    | (refine wpList_store_new' (w.heap.size + 1) (World.size_alloc _ _) rfl _ _ _ rfl (arrB p.addr) rfl rfl _ _ KA.info KA.size.symm KA.one ?_))
  refine (DS.out _).mono ?_
  rintro e w1 ⟨rfl, hb1⟩
  have H1 := HI.out.next hb1
  have c0' := H1.bp.p0
  have c17 := H1.bp.p17 hp
  have HS1 := Lib.hid H1
  clear hb1
  cases hsix : p.six
  · rw [hsix] at c0'
    have hte : textP p = showD [x0, x1, x2, x3] := by unfold textP; rw [hsix]; exact HX.out
    rw [hte] at HCAT s1 hl1
    clear hte hsix
    go_wp2_with fail
    refine (OD.out _).mono ?_
    rintro e w2 ⟨rfl, hw2⟩
    subst hw2
    go_wp2_with fail
    go_ret
    exact ⟨by rw [← HCAT.out]; rfl, HS1.out.below⟩
  · rw [hsix] at c0'
    have hte : textP p = show_ p.addr := by unfold textP; rw [hsix]; rfl
    rw [hte] at HCAT s1 hl1
    clear hte hsix
    go_wp2_with (refine wpList_load_want rfl _ _ rfl (w.heap.size + 1) rfl _ (arrB p.addr) (0, 0) _ HS1.out.ba hu16 rfl KA.info ?_)
    refine (SA.out _).mono ?_
    rintro e w3 ⟨rfl, hb3⟩
    have H3 := HS1.out.next hb3
    have c17' := H3.bp.p17 hp
    have HS3 := Lib.hid H3
    clear hb3
    go_wp2_with fail
    refine (OD.out _).mono ?_
    rintro e w2 ⟨rfl, hw2⟩
    subst hw2
    go_wp2_with fail
    go_ret
    exact ⟨by rw [← HCAT.out]; rfl, HS3.out.below⟩

end Go.Proofs.YtjbolphfelakeaaGreatDoor

/- The document's prefixes: Parse. -/
namespace Go.Proofs.YtjbolphfelakeaaGreatDoor
set_option linter.unusedVariables false
set_option linter.unusedSimpArgs false
open Go.RowKit Go.Shelf Go.Proofs Go.OctetPlain Go.ColonPlain Go.PrefixPlain

/-! ## a whole array into the middle of a block -/
theorem Blk.setCells {g : Nat} {t : TypeId} : ∀ (vs : List Value) (o : Nat) {w : World} {cs : Array Value}, Blk w g t cs → ∃ cs', Blk (w.setCells g o vs) g t cs' ∧ cs'.size = cs.size ∧ ∀ i, i < cs.size → cs'[i]? = if o ≤ i ∧ i < o + vs.length then vs[i - o]? else cs[i]?
  | [], o, w, cs, h => ⟨cs, h, rfl, fun i _ => by rw [if_neg (by simp)]⟩
  | v :: r, o, w, cs, h => by
    obtain ⟨cs', h1, h2, h3⟩ := Blk.setCells r (o + 1) (h.set o v)
    refine ⟨cs', h1, by rw [h2]; simp, fun i hi => ?_⟩
    rw [h3 i (by simpa using hi)]
    by_cases e : i = o
    · subst e
      rw [if_neg (by omega), if_pos ⟨Nat.le_refl _, by simp⟩]
      simp [hi]
    · by_cases c : o + 1 ≤ i ∧ i < o + 1 + r.length
      · rw [if_pos c, if_pos ⟨by omega, by simp only [List.length_cons]; omega⟩, show i - o = (i - (o + 1)) + 1 by omega, List.getElem?_cons_succ]
      · rw [if_neg c, if_neg (by simp only [List.length_cons]; omega), Array.getElem?_setIfInBounds_ne (Ne.symm e)]
theorem below_setCells' {B b : Nat} {a : World} (hb : B ≤ b) : ∀ (vs : List Value) (o : Nat) {w : World}, Below B a w → Below B a (w.setCells b o vs)
  | [], o, w, h => h
  | v :: r, o, w, h => below_setCells' hb r (o + 1) (h.setCell hb v)
theorem Blk.otherCells {g b : Nat} {t : TypeId} {cs : Array Value} (hne : g ≠ b) : ∀ (vs : List Value) (o : Nat) {w : World}, Blk w g t cs → Blk (w.setCells b o vs) g t cs
  | [], o, w, h => h
  | v :: r, o, w, h => Blk.otherCells hne r (o + 1) (h.other ⟨b, o, none⟩ v hne)
theorem Blk.setAddr {w : World} {g : Nat} {t : TypeId} {p : Pf} (hp : p.addr.length = 16) (h : Blk w g t (pfA p)) {a : List UInt8} (ha : a.length = 16) : Blk (w.setCells g 1 (arrB a).toList) g t (pfA ⟨p.six, a, p.len⟩) := by
  obtain ⟨cs', h1, h2, h3⟩ := Blk.setCells (arrB a).toList 1 h
  have : cs' = pfA ⟨p.six, a, p.len⟩ := by
    apply Array.ext_getElem?
    intro i
    have hs : (pfA p).size = 18 := pfA_size hp
    have hs' : (pfA ⟨p.six, a, p.len⟩).size = 18 := pfA_size (p := ⟨p.six, a, p.len⟩) ha
    have hl : (arrB a).toList.length = 16 := by simp [arrB, ha]
    by_cases hi : i < 18
    · rw [h3 i (by omega), hl]
      by_cases c : 1 ≤ i ∧ i < 1 + 16
      · rw [if_pos c]
        obtain ⟨j, rfl⟩ : ∃ j, i = j + 1 := ⟨i - 1, by omega⟩
        rw [show j + 1 - 1 = j by omega]
        unfold pfA
        rw [List.getElem?_toArray, List.getElem?_cons_succ, List.getElem?_append_left (by rw [cellsB_len, ha]; omega), ← cellsB_arr]
      · rw [if_neg c]
        by_cases c0 : i = 0
        · subst c0; simp [pfA]
        · obtain rfl : i = 17 := by omega
          unfold pfA
          rw [List.getElem?_toArray, List.getElem?_cons_succ, List.getElem?_append_right (by rw [cellsB_len, hp]; omega), cellsB_len, hp]
          rw [List.getElem?_toArray, List.getElem?_cons_succ, List.getElem?_append_right (by rw [cellsB_len, ha]; omega), cellsB_len, ha]
    · rw [Array.getElem?_eq_none (by omega), Array.getElem?_eq_none (by omega)]
  rw [this] at h1
  exact h1
theorem Blk.there {w : World} {g : Nat} {t : TypeId} {cs : Array Value} (h : Blk w g t cs) (o n : Nat) (hn : o + n ≤ cs.size) : w.there g o n := fun j hj => by
  refine ⟨?_, h.frozen' _⟩
  rw [h.cell, Array.getElem?_eq_getElem (by omega)]
  rfl

/-- the same, the world behind a name -/
theorem wpList_store_mid_as {P : Program} {ops : Array Oper} {rest : List Oper} {op : Oper} {a : Act} {w : World} {Q : Exit → Act → World → Prop} (R : World → Prop) (hgd : op.guard = none) (ty : TypeId) (x y : Operand) (ho : op.op = .store ty x y)
    (b o : Nat) (cells : Array Value) (hx : a.eval x = .pointer (some ⟨b, o, none⟩)) (hy : a.eval y = .agg cells)
    (ht : w.there b o cells.size) (hi : (P.info? ty).map (·.size) = some cells.size) (h1 : cells.all (·.oneCell') = true) (hR : R (w.setCells b o cells.toList))
    (h : ∀ W', R W' → wpList P ops Q rest (a.put op.dst undef) W') : wpList P ops Q (op :: rest) a w :=
  wpList_store_mid hgd ty x y ho b o cells hx hy ht hi h1 (h _ hR)

/-! ## Parse -/
def adL (x : List UInt8) : List UInt8 := if (dotted x).isSome = true then (dotted x).getD [0, 0, 0, 0] ++ List.replicate 12 0 else (parse x).getD z16
theorem parseL_eq (x y : List UInt8) : parseL x y = if (number y 128).isSome = true ∧ ((dotted x).isSome = true ∨ (parse x).isSome = true) ∧ ok ⟨(parse x).isSome, adL x, (number y 128).getD 0⟩ then some ⟨(parse x).isSome, adL x, (number y 128).getD 0⟩ else none := by
  unfold parseL adL
  cases number y 128 with
  | none => simp
  | some n =>
    cases dotted x with
    | some a => simp
    | none =>
      simp only [Option.isSome_none, Bool.false_eq_true, false_or, if_false, Option.isSome_some, true_and, Option.getD_some]
      have e : (parse x).getD (List.replicate 16 0) = (parse x).getD z16 := rfl
      rw [e]
      generalize (parse x).isSome = s
      generalize (parse x).getD z16 = a
      cases s <;> simp
structure S8 (w W : World) : Prop where
  br : Blk W w.heap.size 24 (pfA zP)
  below : Below w.heap.size w W
theorem S8.next {w W W' : World} (h : S8 w W) (hb : Below W.heap.size W W') : S8 w W' := ⟨h.br.below hb h.br.lt, h.below.trans (hb.mono h.below.size)⟩
theorem drop_last47 {l : List UInt8} {m : Nat} {c : UInt8} (h : l[m]? = some c) : l = l.take m ++ c :: l.drop (m + 1) := by
  obtain ⟨h1, h2⟩ := List.getElem?_eq_some_iff.1 h
  rw [← h2, ← List.drop_eq_getElem_cons h1, List.take_append_drop]
theorem getD_len16 {x : List UInt8} : ((parse x).getD z16).length = 16 := by
  cases h : parse x with
  | none => rfl
  | some a => exact parse_length h
theorem getD_len4 {x : List UInt8} : ((dotted x).getD [0, 0, 0, 0]).length = 4 := by
  cases h : dotted x with
  | none => rfl
  | some a => exact dotParts_length _ _ a h
set_option maxRecDepth 100000 in
set_option maxHeartbeats 8000000 in
theorem r8_Parse (l : List UInt8) (hl : l.length ≤ 100000) (w : World) :
    Calls Tryz.prog 24 #[.string (str l)] w fun e w' => e = .returned (.tuple #[.agg (pfA ((parseP l).getD zP)), .bool (parseP l).isSome]) ∧ Below w.heap.size w w' := by
  have hsz : (str l).size = l.length := str_size l
  have htl := str_tl
  have hu16 := Tryz.underlying22
  have hu4 := Tryz.underlying42
  have huP := Tryz.underlying24
  have KZ := PX.of (p := zP) rfl
  have HB := Lib.hid (⟨Blk.new _ _ _, belowA w _⟩ : S8 w (w.alloc (.cells (pfA zP) 24)))
  go_enter Tryz.func24, Tryz.ntmps24
  go_wp2_with fail
  go_loop [4] (fun vk => ∃ k : Int, vk = .int .i64 k ∧ -1 ≤ k ∧ k < l.length ∧ Hid ((47 : UInt8) ∉ l.drop (k + 1).toNat)) (fun vk => (intOf vk + 1).toNat)
  case atStart => exact ⟨(l.length : Int) - 1, rfl, by omega, by omega, Lib.hid (by rw [List.drop_of_length_le (by omega)]; simp)⟩
  case round =>
    obtain ⟨k, rfl, hk1, hk2, HN⟩ := hrel
    by_cases hk : k < 0
    · obtain rfl : k = -1 := by omega
      have HP : Hid (parseP l = none) := Lib.hid (parseP_no (by simpa using HN.out))
      clear HN
      go_wp2_with (refine wpList_store_row rfl _ _ _ rfl w.heap.size (pfA zP) rfl rfl 24 (pfA zP) HB.out.br KZ.info rfl KZ.one ?_)
      refine bodyPost_ret (results_cell_tmp rfl _ _ _ _ _ _ _ rfl (HB.out.br.setRow _) huP rfl KZ.info) rfl ⟨by rw [HP.out]; rfl, below_setRow HB.out.below (Nat.le_refl _) _⟩
    · obtain ⟨m, rfl⟩ : ∃ m : Nat, k = m := ⟨k.toNat, by omega⟩
      have hm : m < l.length := by omega
      obtain ⟨c, hc⟩ : ∃ c, l[m]? = some c := ⟨_, List.getElem?_eq_getElem hm⟩
      have hg : ∀ h, (str l)[m]'h = c := fun h => (str_get l m h).trans (List.getElem?_eq_some_iff.1 hc).2
      have hm1 : ((m : Int) + 1).toNat = m + 1 := by omega
      rw [hm1] at HN
      by_cases h47 : c = 47
      · have hcat : l = l.take m ++ 47 :: l.drop (m + 1) := by rw [← h47]; exact drop_last47 hc
        have HP : Hid (parseP l = parseL (l.take m) (l.drop (m + 1))) := Lib.hid ((congrArg parseP hcat).trans (parseP_last HN.out))
        have hcX : (str l).extract 0 m = str (l.take m) := by rw [str_cut]; simp
        have hcY : (str l).extract (m + 1) l.length = str (l.drop (m + 1)) := by rw [str_cut, List.take_of_length_le (by simp)]
        have hlX : (l.take m).length ≤ 100000 := by rw [List.length_take]; omega
        have hlY : (l.drop (m + 1)).length ≤ 100000 := by rw [List.length_drop]; omega
        have w1 : IntKind.i64.wrap ((m : Int) + 1) = (m : Int) + 1 := IntWalk.i64_in _ (by omega)
        subst h47
        clear hcat hc HN
        generalize l.take m = x at HP hcX hlX
        generalize l.drop (m + 1) = y at HP hcY hlY
        rw [parseL_eq] at HP
        have NU := Lib.hid fun W => ref_Number y (by omega) 128 W
        have D6 := Lib.hid fun W => ref_dotted x (by omega) W
        have P7 := Lib.hid fun W => ref_Parse7 x hlX W
        have hnb : -9223372036854775808 ≤ (number y 128).getD 0 ∧ (number y 128).getD 0 ≤ 9223372036854775807 := by
          cases hn : number y 128 with
          | none => simp
          | some v => have h := number_some.1 hn; simp only [Option.getD_some]; omega
        obtain ⟨a0, a1, a2, a3, ha⟩ := list4 (getD_len4 (x := x))
        obtain ⟨y0, y1, y2, y3, y4, y5, y6, y7, y8, y9, y10, y11, y12, y13, y14, y15, hy⟩ := list16 (getD_len16 (x := x))
        have hAD : adL x = if (dotted x).isSome = true then [a0, a1, a2, a3, 0, 0, 0, 0, 0, 0, 0, 0, 0, 0, 0, 0] else [y0, y1, y2, y3, y4, y5, y6, y7, y8, y9, y10, y11, y12, y13, y14, y15] := by
          unfold adL; rw [ha, hy]; rfl
        rw [hAD] at HP
        rw [ha] at D6
        rw [hy] at P7
        clear ha hy hAD
        generalize (number y 128).getD 0 = nn at NU HP hnb
        generalize (number y 128).isSome = num at NU HP
        generalize (dotted x).isSome = four at D6 HP
        generalize (parse x).isSome = six at P7 HP
        have KB : A16 #[.int .u8 (y0.toNat : Int), .int .u8 (y1.toNat : Int), .int .u8 (y2.toNat : Int), .int .u8 (y3.toNat : Int), .int .u8 (y4.toNat : Int), .int .u8 (y5.toNat : Int), .int .u8 (y6.toNat : Int), .int .u8 (y7.toNat : Int), .int .u8 (y8.toNat : Int), .int .u8 (y9.toNat : Int), .int .u8 (y10.toNat : Int), .int .u8 (y11.toNat : Int), .int .u8 (y12.toNat : Int), .int .u8 (y13.toNat : Int), .int .u8 (y14.toNat : Int), .int .u8 (y15.toNat : Int)] := A16.of (l := [y0, y1, y2, y3, y4, y5, y6, y7, y8, y9, y10, y11, y12, y13, y14, y15]) rfl
        have P7' : Hid (∀ W, Calls Tryz.prog 42 #[.string (str x)] W fun e w' => e = .returned (.tuple #[.agg #[.int .u8 (y0.toNat : Int), .int .u8 (y1.toNat : Int), .int .u8 (y2.toNat : Int), .int .u8 (y3.toNat : Int), .int .u8 (y4.toNat : Int), .int .u8 (y5.toNat : Int), .int .u8 (y6.toNat : Int), .int .u8 (y7.toNat : Int), .int .u8 (y8.toNat : Int), .int .u8 (y9.toNat : Int), .int .u8 (y10.toNat : Int), .int .u8 (y11.toNat : Int), .int .u8 (y12.toNat : Int), .int .u8 (y13.toNat : Int), .int .u8 (y14.toNat : Int), .int .u8 (y15.toNat : Int)], .bool six]) ∧ Below W.heap.size W w') := P7
        clear P7
        have KP : PX (pfA ⟨six, [y0, y1, y2, y3, y4, y5, y6, y7, y8, y9, y10, y11, y12, y13, y14, y15], nn⟩) := PX.of rfl
        have KD : (Tryz.prog.info? 42).map (·.size) = some (arrB [a0, a1, a2, a3]).size ∧ (arrB [a0, a1, a2, a3]).all (·.oneCell') = true := ⟨info4, arrB_one _⟩
        go_wp2_with fail
        refine (NU.out _).mono ?_
        rintro e w1 ⟨rfl, hw1⟩
        subst hw1
        go_wp2_with fail
        refine (D6.out _).mono ?_
        rintro e w2 ⟨rfl, hb2⟩
        have S2 := Lib.hid ((HB.out.next hb2).next (belowA w2 (.cells (arrB [a0, a1, a2, a3]) 42)))
        have BA2 := Lib.hid (Blk.new w2 42 (arrB [a0, a1, a2, a3]))
        clear hb2 HB
        go_wp2_with (refine wpList_store_new rfl _ _ _ rfl (arrB [a0, a1, a2, a3]) rfl rfl _ _ KD.1 rfl KD.2 ?_)
        refine (P7'.out _).mono ?_
        rintro e w3 ⟨rfl, hb3⟩
        have S3 := (S2.out.next hb3).next (belowA w3 (.cells #[.int .u8 (y0.toNat : Int), .int .u8 (y1.toNat : Int), .int .u8 (y2.toNat : Int), .int .u8 (y3.toNat : Int), .int .u8 (y4.toNat : Int), .int .u8 (y5.toNat : Int), .int .u8 (y6.toNat : Int), .int .u8 (y7.toNat : Int), .int .u8 (y8.toNat : Int), .int .u8 (y9.toNat : Int), .int .u8 (y10.toNat : Int), .int .u8 (y11.toNat : Int), .int .u8 (y12.toNat : Int), .int .u8 (y13.toNat : Int), .int .u8 (y14.toNat : Int), .int .u8 (y15.toNat : Int)] 22))
        have BA3 := (BA2.out.below hb3 BA2.out.lt).alloc (.cells #[.int .u8 (y0.toNat : Int), .int .u8 (y1.toNat : Int), .int .u8 (y2.toNat : Int), .int .u8 (y3.toNat : Int), .int .u8 (y4.toNat : Int), .int .u8 (y5.toNat : Int), .int .u8 (y6.toNat : Int), .int .u8 (y7.toNat : Int), .int .u8 (y8.toNat : Int), .int .u8 (y9.toNat : Int), .int .u8 (y10.toNat : Int), .int .u8 (y11.toNat : Int), .int .u8 (y12.toNat : Int), .int .u8 (y13.toNat : Int), .int .u8 (y14.toNat : Int), .int .u8 (y15.toNat : Int)] 22)
        have BB3 := Lib.hid (Blk.new w3 22 #[.int .u8 (y0.toNat : Int), .int .u8 (y1.toNat : Int), .int .u8 (y2.toNat : Int), .int .u8 (y3.toNat : Int), .int .u8 (y4.toNat : Int), .int .u8 (y5.toNat : Int), .int .u8 (y6.toNat : Int), .int .u8 (y7.toNat : Int), .int .u8 (y8.toNat : Int), .int .u8 (y9.toNat : Int), .int .u8 (y10.toNat : Int), .int .u8 (y11.toNat : Int), .int .u8 (y12.toNat : Int), .int .u8 (y13.toNat : Int), .int .u8 (y14.toNat : Int), .int .u8 (y15.toNat : Int)])
        have S4 := Lib.hid (S3.next (belowA _ (.cells (pfA ⟨six, [y0, y1, y2, y3, y4, y5, y6, y7, y8, y9, y10, y11, y12, y13, y14, y15], nn⟩) 24)))
        have BA4 := Lib.hid (BA3.alloc (.cells (pfA ⟨six, [y0, y1, y2, y3, y4, y5, y6, y7, y8, y9, y10, y11, y12, y13, y14, y15], nn⟩) 24))
        have BP4 := Blk.new (w3.alloc (.cells #[.int .u8 (y0.toNat : Int), .int .u8 (y1.toNat : Int), .int .u8 (y2.toNat : Int), .int .u8 (y3.toNat : Int), .int .u8 (y4.toNat : Int), .int .u8 (y5.toNat : Int), .int .u8 (y6.toNat : Int), .int .u8 (y7.toNat : Int), .int .u8 (y8.toNat : Int), .int .u8 (y9.toNat : Int), .int .u8 (y10.toNat : Int), .int .u8 (y11.toNat : Int), .int .u8 (y12.toNat : Int), .int .u8 (y13.toNat : Int), .int .u8 (y14.toNat : Int), .int .u8 (y15.toNat : Int)] 22)) 24 (pfA ⟨six, [y0, y1, y2, y3, y4, y5, y6, y7, y8, y9, y10, y11, y12, y13, y14, y15], nn⟩)
        simp only [World.size_alloc] at BP4
        have BP4 := Lib.hid BP4
        have hlt3 := S3.br.lt
        simp only [World.size_alloc] at hlt3
        clear hb3 S3 BA3 S2 BA2
        cases four
        · rw [if_neg (show ¬ (false = true) by decide)] at HP
          cases num
          · have HN : Hid (parseP l = none) := by rw [HP.out, if_neg (fun h => by cases h.1)]; exact Lib.hid rfl
            clear HP
            go_wp2_with (first
              | (refine wpList_store_new rfl _ _ _ rfl #[.int .u8 (y0.toNat : Int), .int .u8 (y1.toNat : Int), .int .u8 (y2.toNat : Int), .int .u8 (y3.toNat : Int), .int .u8 (y4.toNat : Int), .int .u8 (y5.toNat : Int), .int .u8 (y6.toNat : Int), .int .u8 (y7.toNat : Int), .int .u8 (y8.toNat : Int), .int .u8 (y9.toNat : Int), .int .u8 (y10.toNat : Int), .int .u8 (y11.toNat : Int), .int .u8 (y12.toNat : Int), .int .u8 (y13.toNat : Int), .int .u8 (y14.toNat : Int), .int .u8 (y15.toNat : Int)] rfl rfl _ _ KB.info KB.size.symm KB.one ?_)
              | (refine wpList_load_want rfl _ _ rfl w3.heap.size rfl _ #[.int .u8 (y0.toNat : Int), .int .u8 (y1.toNat : Int), .int .u8 (y2.toNat : Int), .int .u8 (y3.toNat : Int), .int .u8 (y4.toNat : Int), .int .u8 (y5.toNat : Int), .int .u8 (y6.toNat : Int), .int .u8 (y7.toNat : Int), .int .u8 (y8.toNat : Int), .int .u8 (y9.toNat : Int), .int .u8 (y10.toNat : Int), .int .u8 (y11.toNat : Int), .int .u8 (y12.toNat : Int), .int .u8 (y13.toNat : Int), .int .u8 (y14.toNat : Int), .int .u8 (y15.toNat : Int)] (0, 0) _ BB3.out hu16 rfl KB.info ?_)
              | (refine wpList_store_new' (w3.heap.size + 1) (World.size_alloc _ _) rfl _ _ _ rfl (pfA ⟨six, [y0, y1, y2, y3, y4, y5, y6, y7, y8, y9, y10, y11, y12, y13, y14, y15], nn⟩) rfl rfl _ _ KP.info KP.size.symm KP.one ?_)
              | (refine wpList_store_row rfl _ _ _ rfl w.heap.size (pfA zP) rfl rfl 24 (pfA zP) S4.out.br KZ.info rfl KZ.one ?_))
            refine bodyPost_ret (results_cell_tmp rfl _ _ _ _ _ _ _ rfl (S4.out.br.setRow _) huP rfl KZ.info) rfl ⟨by rw [HN.out]; rfl, below_setRow S4.out.below (Nat.le_refl _) _⟩
          · cases six
            · have HN : Hid (parseP l = none) := by rw [HP.out, if_neg (fun h => by rcases h.2.1 with h | h <;> cases h)]; exact Lib.hid rfl
              clear HP
              go_wp2_with (first
                | (refine wpList_store_new rfl _ _ _ rfl #[.int .u8 (y0.toNat : Int), .int .u8 (y1.toNat : Int), .int .u8 (y2.toNat : Int), .int .u8 (y3.toNat : Int), .int .u8 (y4.toNat : Int), .int .u8 (y5.toNat : Int), .int .u8 (y6.toNat : Int), .int .u8 (y7.toNat : Int), .int .u8 (y8.toNat : Int), .int .u8 (y9.toNat : Int), .int .u8 (y10.toNat : Int), .int .u8 (y11.toNat : Int), .int .u8 (y12.toNat : Int), .int .u8 (y13.toNat : Int), .int .u8 (y14.toNat : Int), .int .u8 (y15.toNat : Int)] rfl rfl _ _ KB.info KB.size.symm KB.one ?_)
                | (refine wpList_load_want rfl _ _ rfl w3.heap.size rfl _ #[.int .u8 (y0.toNat : Int), .int .u8 (y1.toNat : Int), .int .u8 (y2.toNat : Int), .int .u8 (y3.toNat : Int), .int .u8 (y4.toNat : Int), .int .u8 (y5.toNat : Int), .int .u8 (y6.toNat : Int), .int .u8 (y7.toNat : Int), .int .u8 (y8.toNat : Int), .int .u8 (y9.toNat : Int), .int .u8 (y10.toNat : Int), .int .u8 (y11.toNat : Int), .int .u8 (y12.toNat : Int), .int .u8 (y13.toNat : Int), .int .u8 (y14.toNat : Int), .int .u8 (y15.toNat : Int)] (0, 0) _ BB3.out hu16 rfl KB.info ?_)
                | (refine wpList_store_new' (w3.heap.size + 1) (World.size_alloc _ _) rfl _ _ _ rfl (pfA ⟨false, [y0, y1, y2, y3, y4, y5, y6, y7, y8, y9, y10, y11, y12, y13, y14, y15], nn⟩) rfl rfl _ _ KP.info KP.size.symm KP.one ?_)
                | (refine wpList_store_row rfl _ _ _ rfl w.heap.size (pfA zP) rfl rfl 24 (pfA zP) S4.out.br KZ.info rfl KZ.one ?_))
              refine bodyPost_ret (results_cell_tmp rfl _ _ _ _ _ _ _ rfl (S4.out.br.setRow _) huP rfl KZ.info) rfl ⟨by rw [HN.out]; rfl, below_setRow S4.out.below (Nat.le_refl _) _⟩
            · by_cases hok : ok ⟨true, [y0, y1, y2, y3, y4, y5, y6, y7, y8, y9, y10, y11, y12, y13, y14, y15], nn⟩
              · have HN : Hid (parseP l = some ⟨true, [y0, y1, y2, y3, y4, y5, y6, y7, y8, y9, y10, y11, y12, y13, y14, y15], nn⟩) := by rw [HP.out, if_pos ⟨rfl, Or.inr rfl, hok⟩]; exact Lib.hid rfl
                have CK := Lib.hid fun W => r8_Check ⟨true, [y0, y1, y2, y3, y4, y5, y6, y7, y8, y9, y10, y11, y12, y13, y14, y15], nn⟩ rfl hnb W
                rw [show okN ⟨true, [y0, y1, y2, y3, y4, y5, y6, y7, y8, y9, y10, y11, y12, y13, y14, y15], nn⟩ = 0 by unfold okN; rw [if_pos hok]] at CK
                clear hok HP
                go_wp2_with (first
                  | (refine wpList_store_new rfl _ _ _ rfl #[.int .u8 (y0.toNat : Int), .int .u8 (y1.toNat : Int), .int .u8 (y2.toNat : Int), .int .u8 (y3.toNat : Int), .int .u8 (y4.toNat : Int), .int .u8 (y5.toNat : Int), .int .u8 (y6.toNat : Int), .int .u8 (y7.toNat : Int), .int .u8 (y8.toNat : Int), .int .u8 (y9.toNat : Int), .int .u8 (y10.toNat : Int), .int .u8 (y11.toNat : Int), .int .u8 (y12.toNat : Int), .int .u8 (y13.toNat : Int), .int .u8 (y14.toNat : Int), .int .u8 (y15.toNat : Int)] rfl rfl _ _ KB.info KB.size.symm KB.one ?_)
                  | (refine wpList_load_want rfl _ _ rfl w3.heap.size rfl _ #[.int .u8 (y0.toNat : Int), .int .u8 (y1.toNat : Int), .int .u8 (y2.toNat : Int), .int .u8 (y3.toNat : Int), .int .u8 (y4.toNat : Int), .int .u8 (y5.toNat : Int), .int .u8 (y6.toNat : Int), .int .u8 (y7.toNat : Int), .int .u8 (y8.toNat : Int), .int .u8 (y9.toNat : Int), .int .u8 (y10.toNat : Int), .int .u8 (y11.toNat : Int), .int .u8 (y12.toNat : Int), .int .u8 (y13.toNat : Int), .int .u8 (y14.toNat : Int), .int .u8 (y15.toNat : Int)] (0, 0) _ BB3.out hu16 rfl KB.info ?_)
                  | (refine wpList_store_new' (w3.heap.size + 1) (World.size_alloc _ _) rfl _ _ _ rfl (pfA ⟨true, [y0, y1, y2, y3, y4, y5, y6, y7, y8, y9, y10, y11, y12, y13, y14, y15], nn⟩) rfl rfl _ _ KP.info KP.size.symm KP.one ?_)
                  | (refine wpList_load_want rfl _ _ rfl (w3.heap.size + 1) rfl _ (pfA ⟨true, [y0, y1, y2, y3, y4, y5, y6, y7, y8, y9, y10, y11, y12, y13, y14, y15], nn⟩) (0, 0) _ BP4.out huP rfl KP.info ?_))
                refine (CK.out _).mono ?_
                rintro e w4 ⟨rfl, hb4⟩
                have S6 := Lib.hid (S4.out.next hb4)
                have B6 := Lib.hid (BP4.out.below hb4 BP4.out.lt)
                clear hb4
                go_wp2_with (first
                  | (refine wpList_load_want rfl _ _ rfl (w3.heap.size + 1) rfl _ (pfA ⟨true, [y0, y1, y2, y3, y4, y5, y6, y7, y8, y9, y10, y11, y12, y13, y14, y15], nn⟩) (0, 0) _ B6.out huP rfl KP.info ?_)
                  | (refine wpList_store_row rfl _ _ _ rfl w.heap.size (pfA ⟨true, [y0, y1, y2, y3, y4, y5, y6, y7, y8, y9, y10, y11, y12, y13, y14, y15], nn⟩) rfl rfl 24 (pfA zP) S6.out.br KP.info KP.size.symm KP.one ?_))
                refine bodyPost_ret (results_cell_tmp rfl _ _ _ _ _ _ _ rfl (S6.out.br.setRow _) huP rfl KP.info) rfl ⟨by rw [HN.out]; rfl, below_setRow S6.out.below (Nat.le_refl _) _⟩
              · have HN : Hid (parseP l = none) := by rw [HP.out, if_neg (fun h => hok h.2.2)]; exact Lib.hid rfl
                have CK := Lib.hid fun W => r8_Check ⟨true, [y0, y1, y2, y3, y4, y5, y6, y7, y8, y9, y10, y11, y12, y13, y14, y15], nn⟩ rfl hnb W
                rw [show okN ⟨true, [y0, y1, y2, y3, y4, y5, y6, y7, y8, y9, y10, y11, y12, y13, y14, y15], nn⟩ = 1 by unfold okN; rw [if_neg hok]] at CK
                clear hok HP
                go_wp2_with (first
                  | (refine wpList_store_new rfl _ _ _ rfl #[.int .u8 (y0.toNat : Int), .int .u8 (y1.toNat : Int), .int .u8 (y2.toNat : Int), .int .u8 (y3.toNat : Int), .int .u8 (y4.toNat : Int), .int .u8 (y5.toNat : Int), .int .u8 (y6.toNat : Int), .int .u8 (y7.toNat : Int), .int .u8 (y8.toNat : Int), .int .u8 (y9.toNat : Int), .int .u8 (y10.toNat : Int), .int .u8 (y11.toNat : Int), .int .u8 (y12.toNat : Int), .int .u8 (y13.toNat : Int), .int .u8 (y14.toNat : Int), .int .u8 (y15.toNat : Int)] rfl rfl _ _ KB.info KB.size.symm KB.one ?_)
                  | (refine wpList_load_want rfl _ _ rfl w3.heap.size rfl _ #[.int .u8 (y0.toNat : Int), .int .u8 (y1.toNat : Int), .int .u8 (y2.toNat : Int), .int .u8 (y3.toNat : Int), .int .u8 (y4.toNat : Int), .int .u8 (y5.toNat : Int), .int .u8 (y6.toNat : Int), .int .u8 (y7.toNat : Int), .int .u8 (y8.toNat : Int), .int .u8 (y9.toNat : Int), .int .u8 (y10.toNat : Int), .int .u8 (y11.toNat : Int), .int .u8 (y12.toNat : Int), .int .u8 (y13.toNat : Int), .int .u8 (y14.toNat : Int), .int .u8 (y15.toNat : Int)] (0, 0) _ BB3.out hu16 rfl KB.info ?_)
                  | (refine wpList_store_new' (w3.heap.size + 1) (World.size_alloc _ _) rfl _ _ _ rfl (pfA ⟨true, [y0, y1, y2, y3, y4, y5, y6, y7, y8, y9, y10, y11, y12, y13, y14, y15], nn⟩) rfl rfl _ _ KP.info KP.size.symm KP.one ?_)
                  | (refine wpList_load_want rfl _ _ rfl (w3.heap.size + 1) rfl _ (pfA ⟨true, [y0, y1, y2, y3, y4, y5, y6, y7, y8, y9, y10, y11, y12, y13, y14, y15], nn⟩) (0, 0) _ BP4.out huP rfl KP.info ?_))
                refine (CK.out _).mono ?_
                rintro e w4 ⟨rfl, hb4⟩
                have S6 := Lib.hid (S4.out.next hb4)
                have B6 := Lib.hid (BP4.out.below hb4 BP4.out.lt)
                clear hb4
                go_wp2_with (first
                  | (refine wpList_store_row rfl _ _ _ rfl w.heap.size (pfA zP) rfl rfl 24 (pfA zP) S6.out.br KZ.info rfl KZ.one ?_))
                refine bodyPost_ret (results_cell_tmp rfl _ _ _ _ _ _ _ rfl (S6.out.br.setRow _) huP rfl KZ.info) rfl ⟨by rw [HN.out]; rfl, below_setRow S6.out.below (Nat.le_refl _) _⟩
        · rw [if_pos (show true = true from rfl)] at HP
          have KQ : PX (pfA ⟨six, [a0, a1, a2, a3, 0, 0, 0, 0, 0, 0, 0, 0, 0, 0, 0, 0], nn⟩) := PX.of rfl
          have KC : A16 #[.int .u8 (a0.toNat : Int), .int .u8 (a1.toNat : Int), .int .u8 (a2.toNat : Int), .int .u8 (a3.toNat : Int), .int .u8 0, .int .u8 0, .int .u8 0, .int .u8 0, .int .u8 0, .int .u8 0, .int .u8 0, .int .u8 0, .int .u8 0, .int .u8 0, .int .u8 0, .int .u8 0] := A16.of (l := [a0, a1, a2, a3, 0, 0, 0, 0, 0, 0, 0, 0, 0, 0, 0, 0]) rfl
          go_upto_region 10 with (first
            | (refine wpList_store_new rfl _ _ _ rfl #[.int .u8 (y0.toNat : Int), .int .u8 (y1.toNat : Int), .int .u8 (y2.toNat : Int), .int .u8 (y3.toNat : Int), .int .u8 (y4.toNat : Int), .int .u8 (y5.toNat : Int), .int .u8 (y6.toNat : Int), .int .u8 (y7.toNat : Int), .int .u8 (y8.toNat : Int), .int .u8 (y9.toNat : Int), .int .u8 (y10.toNat : Int), .int .u8 (y11.toNat : Int), .int .u8 (y12.toNat : Int), .int .u8 (y13.toNat : Int), .int .u8 (y14.toNat : Int), .int .u8 (y15.toNat : Int)] rfl rfl _ _ KB.info KB.size.symm KB.one ?_)
            | (refine wpList_load_want rfl _ _ rfl w3.heap.size rfl _ #[.int .u8 (y0.toNat : Int), .int .u8 (y1.toNat : Int), .int .u8 (y2.toNat : Int), .int .u8 (y3.toNat : Int), .int .u8 (y4.toNat : Int), .int .u8 (y5.toNat : Int), .int .u8 (y6.toNat : Int), .int .u8 (y7.toNat : Int), .int .u8 (y8.toNat : Int), .int .u8 (y9.toNat : Int), .int .u8 (y10.toNat : Int), .int .u8 (y11.toNat : Int), .int .u8 (y12.toNat : Int), .int .u8 (y13.toNat : Int), .int .u8 (y14.toNat : Int), .int .u8 (y15.toNat : Int)] (0, 0) _ BB3.out hu16 rfl KB.info ?_)
            | (refine wpList_store_new' (w3.heap.size + 1) (World.size_alloc _ _) rfl _ _ _ rfl (pfA ⟨six, [y0, y1, y2, y3, y4, y5, y6, y7, y8, y9, y10, y11, y12, y13, y14, y15], nn⟩) rfl rfl _ _ KP.info KP.size.symm KP.one ?_))
          obtain ⟨g, hg⟩ : ∃ g, g = w3.heap.size + 1 := ⟨_, rfl⟩
          have hlt4 : w.heap.size < g := by rw [hg]; exact hlt3
          rw [← hg] at BP4 ⊢
          generalize ((w3.alloc (.cells #[.int .u8 (y0.toNat : Int), .int .u8 (y1.toNat : Int), .int .u8 (y2.toNat : Int), .int .u8 (y3.toNat : Int), .int .u8 (y4.toNat : Int), .int .u8 (y5.toNat : Int), .int .u8 (y6.toNat : Int), .int .u8 (y7.toNat : Int), .int .u8 (y8.toNat : Int), .int .u8 (y9.toNat : Int), .int .u8 (y10.toNat : Int), .int .u8 (y11.toNat : Int), .int .u8 (y12.toNat : Int), .int .u8 (y13.toNat : Int), .int .u8 (y14.toNat : Int), .int .u8 (y15.toNat : Int)] 22)).alloc (.cells (pfA ⟨six, [y0, y1, y2, y3, y4, y5, y6, y7, y8, y9, y10, y11, y12, y13, y14, y15], nn⟩) 24)) = W4 at S4 BA4 BP4 ⊢
          obtain ⟨c0, c1, c2, c3⟩ := BA4.out.cells4
          have B5 : Blk (W4.setCells g 1 #[.int .u8 (a0.toNat : Int), .int .u8 (a1.toNat : Int), .int .u8 (a2.toNat : Int), .int .u8 (a3.toNat : Int), .int .u8 0, .int .u8 0, .int .u8 0, .int .u8 0, .int .u8 0, .int .u8 0, .int .u8 0, .int .u8 0, .int .u8 0, .int .u8 0, .int .u8 0, .int .u8 0].toList) g 24 (pfA ⟨six, [a0, a1, a2, a3, 0, 0, 0, 0, 0, 0, 0, 0, 0, 0, 0, 0], nn⟩) := Blk.setAddr (p := ⟨six, [y0, y1, y2, y3, y4, y5, y6, y7, y8, y9, y10, y11, y12, y13, y14, y15], nn⟩) rfl BP4.out (a := [a0, a1, a2, a3, 0, 0, 0, 0, 0, 0, 0, 0, 0, 0, 0, 0]) rfl
          have S5 : S8 w (W4.setCells g 1 #[.int .u8 (a0.toNat : Int), .int .u8 (a1.toNat : Int), .int .u8 (a2.toNat : Int), .int .u8 (a3.toNat : Int), .int .u8 0, .int .u8 0, .int .u8 0, .int .u8 0, .int .u8 0, .int .u8 0, .int .u8 0, .int .u8 0, .int .u8 0, .int .u8 0, .int .u8 0, .int .u8 0].toList) := ⟨Blk.otherCells (Nat.ne_of_lt hlt4) _ _ S4.out.br, below_setCells' (Nat.le_of_lt hlt4) _ _ S4.out.below⟩
          have R5 := Lib.hid (And.intro S5 B5)
          have THR := Lib.hid (BP4.out.there 1 16 (by rw [pfA_size rfl]; decide))
          clear S5 B5 hg hlt3 BB3
          go_upto_region 12 with ((refine wpList_store_mid_as (fun W' => Hid (S8 w W' ∧ Blk W' g 24 (pfA ⟨six, [a0, a1, a2, a3, 0, 0, 0, 0, 0, 0, 0, 0, 0, 0, 0, 0], nn⟩))) rfl _ _ _ rfl g 1 #[.int .u8 (a0.toNat : Int), .int .u8 (a1.toNat : Int), .int .u8 (a2.toNat : Int), .int .u8 (a3.toNat : Int), .int .u8 0, .int .u8 0, .int .u8 0, .int .u8 0, .int .u8 0, .int .u8 0, .int .u8 0, .int .u8 0, .int .u8 0, .int .u8 0, .int .u8 0, .int .u8 0] rfl rfl THR.out KC.info KC.one R5 ?_; intro W5 H5))
          have S5 := Lib.hid H5.out.1
          have B5 := Lib.hid H5.out.2
          clear H5 R5 THR c0 c1 c2 c3 BA4 BP4 S4
          cases num
          · have HN : Hid (parseP l = none) := by rw [HP.out, if_neg (fun h => by cases h.1)]; exact Lib.hid rfl
            clear HP
            go_wp2_with (refine wpList_store_row rfl _ _ _ rfl w.heap.size (pfA zP) rfl rfl 24 (pfA zP) S5.out.br KZ.info rfl KZ.one ?_)
            refine bodyPost_ret (results_cell_tmp rfl _ _ _ _ _ _ _ rfl (S5.out.br.setRow _) huP rfl KZ.info) rfl ⟨by rw [HN.out]; rfl, below_setRow S5.out.below (Nat.le_refl _) _⟩
          · by_cases hok : ok ⟨six, [a0, a1, a2, a3, 0, 0, 0, 0, 0, 0, 0, 0, 0, 0, 0, 0], nn⟩
            · have HN : Hid (parseP l = some ⟨six, [a0, a1, a2, a3, 0, 0, 0, 0, 0, 0, 0, 0, 0, 0, 0, 0], nn⟩) := by rw [HP.out, if_pos ⟨rfl, Or.inl (by first | rfl | trivial), hok⟩]; exact Lib.hid rfl
              have CK := Lib.hid fun W => r8_Check ⟨six, [a0, a1, a2, a3, 0, 0, 0, 0, 0, 0, 0, 0, 0, 0, 0, 0], nn⟩ rfl hnb W
              rw [show okN ⟨six, [a0, a1, a2, a3, 0, 0, 0, 0, 0, 0, 0, 0, 0, 0, 0, 0], nn⟩ = 0 by unfold okN; rw [if_pos hok]] at CK
              clear hok HP
              go_wp2_with (refine wpList_load_want rfl _ _ rfl g rfl _ (pfA ⟨six, [a0, a1, a2, a3, 0, 0, 0, 0, 0, 0, 0, 0, 0, 0, 0, 0], nn⟩) (0, 0) _ B5.out huP rfl KQ.info ?_)
              refine (CK.out _).mono ?_
              rintro e w4 ⟨rfl, hb4⟩
              have S6 := Lib.hid (S5.out.next hb4)
              have B6 := Lib.hid (B5.out.below hb4 B5.out.lt)
              clear hb4
              go_wp2_with (first
                | (refine wpList_load_want rfl _ _ rfl g rfl _ (pfA ⟨six, [a0, a1, a2, a3, 0, 0, 0, 0, 0, 0, 0, 0, 0, 0, 0, 0], nn⟩) (0, 0) _ B6.out huP rfl KQ.info ?_)
                | (refine wpList_store_row rfl _ _ _ rfl w.heap.size (pfA ⟨six, [a0, a1, a2, a3, 0, 0, 0, 0, 0, 0, 0, 0, 0, 0, 0, 0], nn⟩) rfl rfl 24 (pfA zP) S6.out.br KQ.info KQ.size.symm KQ.one ?_))
              refine bodyPost_ret (results_cell_tmp rfl _ _ _ _ _ _ _ rfl (S6.out.br.setRow _) huP rfl KQ.info) rfl ⟨by rw [HN.out]; rfl, below_setRow S6.out.below (Nat.le_refl _) _⟩
            · have HN : Hid (parseP l = none) := by rw [HP.out, if_neg (fun h => hok h.2.2)]; exact Lib.hid rfl
              have CK := Lib.hid fun W => r8_Check ⟨six, [a0, a1, a2, a3, 0, 0, 0, 0, 0, 0, 0, 0, 0, 0, 0, 0], nn⟩ rfl hnb W
              rw [show okN ⟨six, [a0, a1, a2, a3, 0, 0, 0, 0, 0, 0, 0, 0, 0, 0, 0, 0], nn⟩ = 1 by unfold okN; rw [if_neg hok]] at CK
              clear hok HP
              go_wp2_with (refine wpList_load_want rfl _ _ rfl g rfl _ (pfA ⟨six, [a0, a1, a2, a3, 0, 0, 0, 0, 0, 0, 0, 0, 0, 0, 0, 0], nn⟩) (0, 0) _ B5.out huP rfl KQ.info ?_)
              refine (CK.out _).mono ?_
              rintro e w4 ⟨rfl, hb4⟩
              have S6 := Lib.hid (S5.out.next hb4)
              have B6 := Lib.hid (B5.out.below hb4 B5.out.lt)
              clear hb4
              go_wp2_with (refine wpList_store_row rfl _ _ _ rfl w.heap.size (pfA zP) rfl rfl 24 (pfA zP) S6.out.br KZ.info rfl KZ.one ?_)
              refine bodyPost_ret (results_cell_tmp rfl _ _ _ _ _ _ _ rfl (S6.out.br.setRow _) huP rfl KZ.info) rfl ⟨by rw [HN.out]; rfl, below_setRow S6.out.below (Nat.le_refl _) _⟩
      · have hne : ((c.toNat : Int) != 47) = true := by
          rw [bne_iff_ne]; intro h; exact h47 (UInt8.toNat_inj.1 (Int.ofNat.inj h))
        have HE : Hid ((47 : UInt8) ∉ l.drop (((m : Int) - 1) + 1).toNat) := by
          rw [show (((m : Int) - 1) + 1).toNat = m by omega]
          refine Lib.hid ?_
          obtain ⟨h1, h2⟩ := List.getElem?_eq_some_iff.1 hc
          rw [List.drop_eq_getElem_cons h1, h2]
          intro h
          rcases List.mem_cons.1 h with h | h
          · exact h47 h.symm
          · exact HN.out h
        clear hc HN h47
        go_wp2_with fail
        exact ⟨⟨(m : Int) - 1, by go_num, by omega, by omega, HE⟩, by simp [intOf] <;> omega⟩
end Go.Proofs.YtjbolphfelakeaaGreatDoor
