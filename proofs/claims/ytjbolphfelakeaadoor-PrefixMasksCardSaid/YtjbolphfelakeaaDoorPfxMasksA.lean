/- The laws of layer 8: Masks. -/
import Derived.Test.YtjbolphfelakeaaDoorPfxMasks0
namespace Go.Proofs.YtjbolphfelakeaaDoor
set_option linter.unusedVariables false
set_option linter.unusedSimpArgs false
open Go.RowKit Go.Shelf Go.Proofs Go.OctetPlain Go.ColonPlain Go.PrefixPlain

set_option maxRecDepth 100000 in
set_option maxHeartbeats 10000000 in
theorem law_masksA (six : Bool) (a : List UInt8) (ha : a.length = 16) (m n : Nat) (hm : m ≤ 255) (hn : n ≤ 255) (hcase : n < m) (w : World) (ht : PT w) :
    Calls Tryd.prog 5 #[.bool six, .agg (arrB a), .agg #[.int .u8 (m : Int), .int .u8 (n : Int)]] w fun e w' => e = .returned (.bool true) ∧ Below w.heap.size w w' := by
  have huP := Tryd.underlying24
  have hu16 := Tryd.underlying22
  have KA := A16.of ha
  obtain ⟨mk1, mk2⟩ := masks six ha m n
  have mk3 := (masks six ha n m).2
  have MK2 := Lib.hid mk2
  have MK3 := Lib.hid mk3
  have OP := Lib.hid fun W => pfx_Of six a ha m (by omega) W
  have OQ := Lib.hid fun W => pfx_Of six a ha n (by omega) W
  have hp := ofP_len six ha m
  have hq := ofP_len six ha n
  have lp := ofP_len64 six a m
  have lq := ofP_len64 six a n
  have O1 := Lib.hid fun W => pfx_Of six (ofP six a n).addr hq (min (m : Int) (ofP six a n).len) (by unfold Len64 at lq; omega) W
  have O2 := Lib.hid fun W => pfx_Of six a ha (min (m : Int) n) (by omega) W
  rw [mk1] at O1
  have QE := fun W => eq_pf (p := ofP six a (min (m : Int) n)) (q := ofP six a (min (m : Int) n)) (ofP_len six ha _) (ofP_len six ha _) W
  rw [decide_eq_true rfl] at QE
  have CP0 := Lib.hid fun W => pfx_Covers (ofP six a m) (ofP six a n) hp hq lp lq W
  have CQ0 := Lib.hid fun W => pfx_Covers (ofP six a n) (ofP six a m) hq hp lq lp W
  clear mk1 mk2 mk3
  generalize ofP six a (min (m : Int) n) = x at O1 O2 QE
  generalize ofP six a m = p at *
  generalize ofP six a n = q at *
  have XP := PX.of hp
  have XQ := PX.of hq
  have w1 : IntKind.i64.wrap (m : Int) = m := IntWalk.i64_in _ (by omega)
  have w2 : IntKind.i64.wrap (n : Int) = n := IntWalk.i64_in _ (by omega)
  have h0 : A0 w ((w.alloc (.cells (arrB a) 22)).alloc (.cells #[.int .u8 (m : Int), .int .u8 (n : Int)] 38)) := by
    have hA : A0 w w := ⟨ht, Below.refl _ _⟩
    exact (hA.next (belowA w _)).next (belowA _ _)
  have hb0 : Blk ((w.alloc (.cells (arrB a) 22)).alloc (.cells #[.int .u8 (m : Int), .int .u8 (n : Int)] 38)) w.heap.size 22 (arrB a) := (Blk.new _ _ _).alloc _
  have hb5 : Blk ((w.alloc (.cells (arrB a) 22)).alloc (.cells #[.int .u8 (m : Int), .int .u8 (n : Int)] 38)) (w.heap.size + 1) 38 #[.int .u8 (m : Int), .int .u8 (n : Int)] := by
    have h := Blk.new (w.alloc (.cells (arrB a) 22)) 38 #[.int .u8 (m : Int), .int .u8 (n : Int)]
    rw [World.size_alloc] at h
    exact h
  have H0 := Lib.hid h0
  have HA0 := Lib.hid hb0
  have HA5 := Lib.hid hb5
  clear h0 hb0 hb5 ht
  go_enter Tryd.func5, Tryd.ntmps5
  go_wp2_with fail
  refine (law08_awake _ H0.out.pt).mono ?_
  rintro e w1 ⟨rfl, hb1⟩
  have H1 := Lib.hid (H0.out.next hb1)
  have A1 := Lib.hid (HA0.out.below hb1 HA0.out.lt)
  have h5 := HA5.out.below hb1 HA5.out.lt
  have c0 := h5.cell 0
  have c1 := h5.cell 1
  simp only [List.getElem?_toArray, List.getElem?_cons_zero, List.getElem?_cons_succ] at c0 c1
  clear hb1 h5
  go_wp2_with (refine wpList_load_want rfl _ _ rfl w.heap.size rfl _ (arrB a) (0, 0) _ A1.out hu16 rfl KA.info ?_)
  refine (OP.out _).mono ?_
  rintro e w2 ⟨rfl, hb2⟩
  have H2 := Lib.hid ((H1.out.next hb2).next (belowA w2 (.cells (pfA p) 24)))
  have A2 := Lib.hid ((A1.out.below hb2 A1.out.lt).alloc (.cells (pfA p) 24))
  have K1 := Lib.hid (Blk.new w2 24 (pfA p))
  clear hb2 c0 c1
  go_wp2_with (first
    | (refine wpList_store_new rfl _ _ _ rfl (pfA p) rfl rfl _ _ XP.info XP.size.symm XP.one ?_)
    | (refine wpList_load_want rfl _ _ rfl w.heap.size rfl _ (arrB a) (0, 0) _ A2.out hu16 rfl KA.info ?_))
  refine (OQ.out _).mono ?_
  rintro e w3 ⟨rfl, hb3⟩
  have hms : MS w (w3.alloc (.cells (pfA q) 24)) w2.heap.size w3.heap.size a p q := by
    have hA := (H2.out.next hb3).next (belowA w3 (.cells (pfA q) 24))
    exact ⟨(A2.out.below hb3 A2.out.lt).alloc _, (K1.out.below hb3 K1.out.lt).alloc _, Blk.new _ _ _, hA.below⟩
  have HH := Lib.hid hms
  clear hb3 hms
  generalize w2.heap.size = g1 at *
  go_wp2_with (refine wpList_store_new rfl _ _ _ rfl (pfA q) rfl rfl _ _ XQ.info XQ.size.symm XQ.one ?_)
  generalize hg2 : w3.heap.size = g2 at *
  generalize w3.alloc (.cells (pfA q) 24) = w6 at *
  have CQ := CQ0
  rw [MK3.out (by omega)] at CQ
  refine wp_region_held_drew (S := fun W => MS w W g1 g2 a p q) (by kernel_rfl) HH.out.drew (fun hHeld => ?_)
  refine wpAnyH_take (i := 0) (v := ?_) rfl (by kernel_rfl) (by kernel_rfl) (by kernel_rfl) (fun _ _ _ h => h) (Or.inl ⟨by rfl, ?_⟩) (by assumption) ?_
  rotate_left
  · intro w hSw; go_simp; try with_reducible rfl
  simp only [Act.put, List.setIfInBounds_toArray, List.set_cons_zero, List.set_cons_succ, List.getElem_toArray, List.getElem_cons_zero, List.getElem_cons_succ]
  refine wpAnyH_take (i := 1) (v := ?_) rfl (by kernel_rfl) (by kernel_rfl) (by kernel_rfl) (fun _ _ _ h => h) (Or.inl ⟨by rfl, ?_⟩) (by assumption) ?_
  rotate_left
  · intro w hSw; go_simp; try with_reducible rfl
  simp only [Act.put, List.setIfInBounds_toArray, List.set_cons_zero, List.set_cons_succ, List.getElem_toArray, List.getElem_cons_zero, List.getElem_cons_succ]
  refine wpAnyH_take (i := 2) rfl (by kernel_rfl) (by kernel_rfl) (by kernel_rfl) (fun _ _ _ h => h) (yieldsIf_load_addr (by rfl) _ rfl (g2) 1 rfl (q.addr) (hq) (fun w h => (h.bq).pA)) (by assumption) ?_
  simp only [Act.put, List.setIfInBounds_toArray, List.set_cons_zero, List.set_cons_succ, List.getElem_toArray, List.getElem_cons_zero, List.getElem_cons_succ]
  refine wpAnyH_take (i := 3) (v := ?_) rfl (by kernel_rfl) (by kernel_rfl) (by kernel_rfl) (fun _ _ _ h => h) (Or.inl ⟨by rfl, ?_⟩) (by assumption) ?_
  rotate_left
  · intro w hSw; go_simp; try with_reducible rfl
  simp only [Act.put, List.setIfInBounds_toArray, List.set_cons_zero, List.set_cons_succ, List.getElem_toArray, List.getElem_cons_zero, List.getElem_cons_succ]
  refine wpAnyH_take (i := 4) (v := ?_) rfl (by kernel_rfl) (by kernel_rfl) (by kernel_rfl) (fun _ _ _ h => h) (Or.inl ⟨by rfl, ?_⟩) (by assumption) ?_
  rotate_left
  · intro w hSw; go_simp; try with_reducible rfl
  simp only [Act.put, List.setIfInBounds_toArray, List.set_cons_zero, List.set_cons_succ, List.getElem_toArray, List.getElem_cons_zero, List.getElem_cons_succ]
  refine wpAnyH_take (i := 5) (v := ?_) rfl (by kernel_rfl) (by kernel_rfl) (by kernel_rfl) (fun _ _ _ h => h) (Or.inl ⟨by rfl, ?_⟩) (by assumption) ?_
  rotate_left
  · intro w h; have hf := (h.bq).p17 hq; go_simp; try with_reducible rfl
  simp only [Act.put, List.setIfInBounds_toArray, List.set_cons_zero, List.set_cons_succ, List.getElem_toArray, List.getElem_cons_zero, List.getElem_cons_succ]
  refine wpAnyH_take (i := 6) (v := ?_) rfl (by kernel_rfl) (by kernel_rfl) (by kernel_rfl) (fun _ _ _ h => h) (Or.inl ⟨by rfl, ?_⟩) (by assumption) ?_
  rotate_left
  · intro w hSw; go_simp; try with_reducible rfl
  simp only [Act.put, List.setIfInBounds_toArray, List.set_cons_zero, List.set_cons_succ, List.getElem_toArray, List.getElem_cons_zero, List.getElem_cons_succ]
  refine wpAnyH_take (i := 8) (v := ?_) rfl (by kernel_rfl) (by kernel_rfl) (by kernel_rfl) (fun _ _ _ h => h) (Or.inl ⟨by rfl, ?_⟩) (by assumption) ?_
  rotate_left
  · intro w hSw; go_simp; try with_reducible rfl
  simp only [Act.put, List.setIfInBounds_toArray, List.set_cons_zero, List.set_cons_succ, List.getElem_toArray, List.getElem_cons_zero, List.getElem_cons_succ]
  refine wpAnyH_take (i := 9) rfl (by kernel_rfl) (by kernel_rfl) (by kernel_rfl) (fun _ _ _ h => h) (yieldsIf_load_row (by rfl) _ _ rfl (w.heap.size) rfl _ (arrB a) _ (fun w h => h.ba) hu16 rfl KA.info) (by assumption) ?_
  simp only [Act.put, List.setIfInBounds_toArray, List.set_cons_zero, List.set_cons_succ, List.getElem_toArray, List.getElem_cons_zero, List.getElem_cons_succ]
  refine wpAnyH_take (i := 10) (v := ?_) rfl (by kernel_rfl) (by kernel_rfl) (by kernel_rfl) (fun _ _ _ h => h) (Or.inl ⟨by rfl, ?_⟩) (by assumption) ?_
  rotate_left
  · intro w hSw; go_simp; try with_reducible rfl
  simp only [Act.put, List.setIfInBounds_toArray, List.set_cons_zero, List.set_cons_succ, List.getElem_toArray, List.getElem_cons_zero, List.getElem_cons_succ]
  refine wpAnyH_take (i := 11) (v := ?_) rfl (by kernel_rfl) (by kernel_rfl) (by kernel_rfl) (fun _ _ _ h => h) (Or.inl ⟨by rfl, ?_⟩) (by assumption) ?_
  rotate_left
  · intro w hSw; go_simp; try with_reducible rfl
  simp only [Act.put, List.setIfInBounds_toArray, List.set_cons_zero, List.set_cons_succ, List.getElem_toArray, List.getElem_cons_zero, List.getElem_cons_succ]
  refine wpAnyH_take (i := 12) (v := ?_) rfl (by kernel_rfl) (by kernel_rfl) (by kernel_rfl) (fun _ _ _ h => h) (Or.inl ⟨by rfl, ?_⟩) (by assumption) ?_
  rotate_left
  · intro w hSw; go_simp; try with_reducible rfl
  simp only [Act.put, List.setIfInBounds_toArray, List.set_cons_zero, List.set_cons_succ, List.getElem_toArray, List.getElem_cons_zero, List.getElem_cons_succ]
  refine held_step (i := 7) rfl (by kernel_rfl) (by rfl) (fun K hK => ?_)
  go_simp
  refine (O1.out _).mono ?_; rintro e v1 ⟨rfl, hc1⟩
  go_wp2_with fail
  refine hK.out _ _ (MS.next (by assumption) hc1) (fun hHeld => ?_)
  clear hK K
  try simp only [Act.put, List.setIfInBounds_toArray, List.set_cons_zero, List.set_cons_succ, List.getElem_toArray, List.getElem_cons_zero, List.getElem_cons_succ]
  refine held_step (i := 13) rfl (by kernel_rfl) (by rfl) (fun K hK => ?_)
  go_simp
  refine (O2.out _).mono ?_; rintro e v2 ⟨rfl, hc2⟩
  go_wp2_with fail
  refine hK.out _ _ (MS.next (by assumption) hc2) (fun hHeld => ?_)
  clear hK K
  try simp only [Act.put, List.setIfInBounds_toArray, List.set_cons_zero, List.set_cons_succ, List.getElem_toArray, List.getElem_cons_zero, List.getElem_cons_succ]
  refine wpAnyH_take (i := 14) (v := ?_) rfl (by kernel_rfl) (by kernel_rfl) (by kernel_rfl) (fun _ _ _ h => h) (Or.inl ⟨by rfl, ?_⟩) (by assumption) ?_
  rotate_left
  · intro w hSw; go_simp; try with_reducible rfl
  simp only [Act.put, List.setIfInBounds_toArray, List.set_cons_zero, List.set_cons_succ, List.getElem_toArray, List.getElem_cons_zero, List.getElem_cons_succ]
  refine wpAnyH_take (i := 15) (v := ?_) rfl (by kernel_rfl) (by kernel_rfl) (by kernel_rfl) (fun _ _ _ h => h) (Or.inl ⟨by rfl, ?_⟩) (by assumption) ?_
  rotate_left
  · intro w hSw; go_simp; try with_reducible rfl
  simp only [Act.put, List.setIfInBounds_toArray, List.set_cons_zero, List.set_cons_succ, List.getElem_toArray, List.getElem_cons_zero, List.getElem_cons_succ]
  refine wpAnyH_take (i := 16) (v := ?_) rfl (by kernel_rfl) (by kernel_rfl) (by kernel_rfl) (fun _ _ _ h => h) (Or.inl ⟨by rfl, ?_⟩) (by assumption) ?_
  rotate_left
  · intro w hSw; go_simp; try with_reducible rfl
  simp only [Act.put, List.setIfInBounds_toArray, List.set_cons_zero, List.set_cons_succ, List.getElem_toArray, List.getElem_cons_zero, List.getElem_cons_succ]
  refine wpAnyH_take (i := 17) (v := ?_) rfl (by kernel_rfl) (by kernel_rfl) (by kernel_rfl) (fun _ _ _ h => h) (Or.inl ⟨by rfl, ?_⟩) (by assumption) ?_
  rotate_left
  · intro w hSw; go_simp; try with_reducible rfl
  simp only [Act.put, List.setIfInBounds_toArray, List.set_cons_zero, List.set_cons_succ, List.getElem_toArray, List.getElem_cons_zero, List.getElem_cons_succ]
  refine wpAnyH_take (i := 18) (v := .bool true) rfl (by kernel_rfl) (by kernel_rfl) (by kernel_rfl) (fun _ _ _ h => h) (Or.inl ⟨by rfl, ?_⟩) (by assumption) ?_
  · intro w hSw; go_simp; try (omega)
  simp only [Act.put, List.setIfInBounds_toArray, List.set_cons_zero, List.set_cons_succ, List.getElem_toArray, List.getElem_cons_zero, List.getElem_cons_succ]
  refine wpAnyH_take (i := 19) (v := ?_) rfl (by kernel_rfl) (by kernel_rfl) (by kernel_rfl) (fun _ _ _ h => h) (Or.inl ⟨by rfl, ?_⟩) (by assumption) ?_
  rotate_left
  · intro w hSw; go_simp; try with_reducible rfl
  simp only [Act.put, List.setIfInBounds_toArray, List.set_cons_zero, List.set_cons_succ, List.getElem_toArray, List.getElem_cons_zero, List.getElem_cons_succ]
  refine wpAnyH_take (i := 20) rfl (by kernel_rfl) (by kernel_rfl) (by kernel_rfl) (fun _ _ _ h => h) (yieldsIf_off (by rfl)) (by assumption) ?_
  simp only [Act.put, List.setIfInBounds_toArray, List.set_cons_zero, List.set_cons_succ, List.getElem_toArray, List.getElem_cons_zero, List.getElem_cons_succ]
  refine wpAnyH_take (i := 21) rfl (by kernel_rfl) (by kernel_rfl) (by kernel_rfl) (fun _ _ _ h => h) (yieldsIf_off (by rfl)) (by assumption) ?_
  simp only [Act.put, List.setIfInBounds_toArray, List.set_cons_zero, List.set_cons_succ, List.getElem_toArray, List.getElem_cons_zero, List.getElem_cons_succ]
  refine wpAnyH_take (i := 22) rfl (by kernel_rfl) (by kernel_rfl) (by kernel_rfl) (fun _ _ _ h => h) (yieldsIf_off (by rfl)) (by assumption) ?_
  simp only [Act.put, List.setIfInBounds_toArray, List.set_cons_zero, List.set_cons_succ, List.getElem_toArray, List.getElem_cons_zero, List.getElem_cons_succ]
  refine wpAnyH_take (i := 23) (v := ?_) rfl (by kernel_rfl) (by kernel_rfl) (by kernel_rfl) (fun _ _ _ h => h) (Or.inl ⟨by rfl, ?_⟩) (by assumption) ?_
  rotate_left
  · intro w hSw; go_simp; try with_reducible rfl
  simp only [Act.put, List.setIfInBounds_toArray, List.set_cons_zero, List.set_cons_succ, List.getElem_toArray, List.getElem_cons_zero, List.getElem_cons_succ]
  refine wpAnyH_take (i := 24) (v := ?_) rfl (by kernel_rfl) (by kernel_rfl) (by kernel_rfl) (fun _ _ _ h => h) (Or.inl ⟨by rfl, ?_⟩) (by assumption) ?_
  rotate_left
  · intro w hSw; go_simp; try with_reducible rfl
  simp only [Act.put, List.setIfInBounds_toArray, List.set_cons_zero, List.set_cons_succ, List.getElem_toArray, List.getElem_cons_zero, List.getElem_cons_succ]
  refine wpAnyH_take (i := 25) (v := ?_) rfl (by kernel_rfl) (by kernel_rfl) (by kernel_rfl) (fun _ _ _ h => h) (Or.inl ⟨by rfl, ?_⟩) (by assumption) ?_
  rotate_left
  · intro w hSw; go_simp; try with_reducible rfl
  simp only [Act.put, List.setIfInBounds_toArray, List.set_cons_zero, List.set_cons_succ, List.getElem_toArray, List.getElem_cons_zero, List.getElem_cons_succ]
  refine wpAnyH_take (i := 26) (v := ?_) rfl (by kernel_rfl) (by kernel_rfl) (by kernel_rfl) (fun _ _ _ h => h) (Or.inl ⟨by rfl, ?_⟩) (by assumption) ?_
  rotate_left
  · intro w hSw; go_simp; try with_reducible rfl
  simp only [Act.put, List.setIfInBounds_toArray, List.set_cons_zero, List.set_cons_succ, List.getElem_toArray, List.getElem_cons_zero, List.getElem_cons_succ]
  refine wpAnyH_take (i := 27) (v := ?_) rfl (by kernel_rfl) (by kernel_rfl) (by kernel_rfl) (fun _ _ _ h => h) (Or.inl ⟨by rfl, ?_⟩) (by assumption) ?_
  rotate_left
  · intro w hSw; go_simp; try with_reducible rfl
  simp only [Act.put, List.setIfInBounds_toArray, List.set_cons_zero, List.set_cons_succ, List.getElem_toArray, List.getElem_cons_zero, List.getElem_cons_succ]
  refine wpAnyH_take (i := 28) (v := .bool false) rfl (by kernel_rfl) (by kernel_rfl) (by kernel_rfl) (fun _ _ _ h => h) (Or.inl ⟨by rfl, ?_⟩) (by assumption) ?_
  · intro w hSw; go_simp; try (omega)
  simp only [Act.put, List.setIfInBounds_toArray, List.set_cons_zero, List.set_cons_succ, List.getElem_toArray, List.getElem_cons_zero, List.getElem_cons_succ]
  refine wpAnyH_take (i := 29) (v := ?_) rfl (by kernel_rfl) (by kernel_rfl) (by kernel_rfl) (fun _ _ _ h => h) (Or.inl ⟨by rfl, ?_⟩) (by assumption) ?_
  rotate_left
  · intro w hSw; go_simp; try with_reducible rfl
  simp only [Act.put, List.setIfInBounds_toArray, List.set_cons_zero, List.set_cons_succ, List.getElem_toArray, List.getElem_cons_zero, List.getElem_cons_succ]
  refine wpAnyH_take (i := 30) rfl (by kernel_rfl) (by kernel_rfl) (by kernel_rfl) (fun _ _ _ h => h) (yieldsIf_load_row (by rfl) _ _ rfl (g2) rfl _ (pfA q) _ (fun w h => h.bq) huP rfl XQ.info) (by assumption) ?_
  simp only [Act.put, List.setIfInBounds_toArray, List.set_cons_zero, List.set_cons_succ, List.getElem_toArray, List.getElem_cons_zero, List.getElem_cons_succ]
  refine wpAnyH_take (i := 31) rfl (by kernel_rfl) (by kernel_rfl) (by kernel_rfl) (fun _ _ _ h => h) (yieldsIf_load_row (by rfl) _ _ rfl (g1) rfl _ (pfA p) _ (fun w h => h.bp) huP rfl XP.info) (by assumption) ?_
  simp only [Act.put, List.setIfInBounds_toArray, List.set_cons_zero, List.set_cons_succ, List.getElem_toArray, List.getElem_cons_zero, List.getElem_cons_succ]
  refine held_step (i := 32) rfl (by kernel_rfl) (by rfl) (fun K hK => ?_)
  go_simp
  refine (CQ.out _).mono ?_; rintro e v4 ⟨rfl, hc4⟩
  go_wp2_with fail
  refine hK.out _ _ (MS.next (by assumption) hc4) (fun hHeld => ?_)
  clear hK K
  try simp only [Act.put, List.setIfInBounds_toArray, List.set_cons_zero, List.set_cons_succ, List.getElem_toArray, List.getElem_cons_zero, List.getElem_cons_succ]
  refine wpAnyH_take (i := 33) (v := ?_) rfl (by kernel_rfl) (by kernel_rfl) (by kernel_rfl) (fun _ _ _ h => h) (Or.inl ⟨by rfl, ?_⟩) (by assumption) ?_
  rotate_left
  · intro w hSw; go_simp; try with_reducible rfl
  simp only [Act.put, List.setIfInBounds_toArray, List.set_cons_zero, List.set_cons_succ, List.getElem_toArray, List.getElem_cons_zero, List.getElem_cons_succ]
  refine wpAnyH_take (i := 34) (v := ?_) rfl (by kernel_rfl) (by kernel_rfl) (by kernel_rfl) (fun _ _ _ h => h) (Or.inl ⟨by rfl, ?_⟩) (by assumption) ?_
  rotate_left
  · intro w hSw; go_simp; try with_reducible rfl
  simp only [Act.put, List.setIfInBounds_toArray, List.set_cons_zero, List.set_cons_succ, List.getElem_toArray, List.getElem_cons_zero, List.getElem_cons_succ]
  refine wpAnyH_take (i := 35) (v := ?_) rfl (by kernel_rfl) (by kernel_rfl) (by kernel_rfl) (fun _ _ _ h => h) (Or.inl ⟨by rfl, ?_⟩) (by assumption) ?_
  rotate_left
  · intro w hSw; go_simp; try with_reducible rfl
  simp only [Act.put, List.setIfInBounds_toArray, List.set_cons_zero, List.set_cons_succ, List.getElem_toArray, List.getElem_cons_zero, List.getElem_cons_succ]
  refine wpAnyH_done (by kernel_rfl) ?_ _

  all_goals go_wp2_with fail
  all_goals go_ret
  all_goals exact ⟨rfl, MS.below (by assumption)⟩
end Go.Proofs.YtjbolphfelakeaaDoor
