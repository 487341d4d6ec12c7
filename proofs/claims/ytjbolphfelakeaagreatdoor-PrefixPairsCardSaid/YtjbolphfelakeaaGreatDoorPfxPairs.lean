import Derived.Test.YtjbolphfelakeaaGreatDoorPfxRef
/- The law of layer 8 on pairs of prefixes. -/
namespace Go.Proofs.YtjbolphfelakeaaGreatDoor
set_option linter.unusedVariables false
set_option linter.unusedSimpArgs false
open Go.RowKit Go.Shelf Go.Proofs Go.OctetPlain Go.ColonPlain Go.PrefixPlain

structure PR8 (w W : World) (g1 g2 : Nat) (p q c : Pf) : Prop where
  bp : Blk W w.heap.size 24 (pfA p)
  bq : Blk W (w.heap.size + 1) 24 (pfA q)
  b1 : Blk W g1 24 (pfA c)
  b2 : Blk W g2 24 (pfA c)
  below : Below w.heap.size w W
theorem PR8.next {w W W' : World} {g1 g2 : Nat} {p q c : Pf} (h : PR8 w W g1 g2 p q c) (hb : Below W.heap.size W W') : PR8 w W' g1 g2 p q c :=
  ⟨h.bp.below hb h.bp.lt, h.bq.below hb h.bq.lt, h.b1.below hb h.b1.lt, h.b2.below hb h.b2.lt, h.below.trans (hb.mono h.below.size)⟩
theorem PR8.drew {w W : World} {g1 g2 : Nat} {p q c : Pf} (h : PR8 w W g1 g2 p q c) : PR8 w W.drew g1 g2 p q c := h.next (Below.refl _ _).drew
theorem common_len {p q : Pf} (hp : p.addr.length = 16) : (if p.six = q.six then common p q else zP).addr.length = 16 := by
  split
  · unfold common ofP
    simp only [first_length, hp]
  · rfl
set_option maxRecDepth 100000 in
set_option maxHeartbeats 4000000 in
theorem law08_pairs (p q : Pf) (hp : p.addr.length = 16) (hq : q.addr.length = 16) (lp : Len64 p) (lq : Len64 q) (w : World) (ht : PT w) :
    Calls Tryz.prog 4 #[.agg (pfA p), .agg (pfA q)] w fun e w' => e = .returned (.bool true) ∧ Below w.heap.size w w' := by
  have huP := Tryz.underlying24
  have XP := PX.of hp
  have XQ := PX.of hq
  have H0 := Lib.hid (PP.init w p q)
  have HT := Lib.hid (ht.below (PP.init w p q).below)
  have M1 := Lib.hid fun W => pfx_Common p q hp hq lp lq W
  have M2 := Lib.hid fun W => r8_Common p q hp hq lp lq W
  have C1 := Lib.hid fun W => pfx_Covers p q hp hq lp lq W
  have C2 := Lib.hid fun W => r8_Covers p q hp hq lp lq W
  have K1 := Lib.hid fun W => pfx_Compare p q hp hq W
  have K2 := Lib.hid fun W => r8_Compare p q hp hq lp lq W
  have hc := common_len (q := q) hp
  generalize (if p.six = q.six then common p q else zP) = c at M1 M2 hc
  generalize decide (p.six = q.six) = is at M1 M2
  generalize covers p q = cv at C1 C2
  generalize cmpP p q = cm at K1 K2
  have XC := PX.of hc
  have QE := fun W => eq_pf (p := c) (q := c) hc hc W
  rw [decide_eq_true rfl] at QE
  clear ht
  go_enter Tryz.func4, Tryz.ntmps4
  go_wp2_with fail
  refine (law08_awake _ HT.out).mono ?_
  rintro e w1 ⟨rfl, hb1⟩
  have H1 := Lib.hid (H0.out.next hb1)
  clear hb1
  go_wp2_with (first
    | (refine wpList_load_want rfl _ _ rfl w.heap.size rfl _ (pfA p) (0, 0) _ H1.out.bp huP rfl XP.info ?_)
    | (refine wpList_load_want rfl _ _ rfl (w.heap.size + 1) rfl _ (pfA q) (0, 0) _ H1.out.bq huP rfl XQ.info ?_))
  refine (M1.out _).mono ?_
  rintro e w2 ⟨rfl, hb2⟩
  have H2 := Lib.hid ((H1.out.next hb2).next (belowA w2 (.cells (pfA c) 24)))
  have B2 := Lib.hid (Blk.new w2 24 (pfA c))
  clear hb2
  go_wp2_with (first
    | (refine wpList_store_new rfl _ _ _ rfl (pfA c) rfl rfl _ _ XC.info XC.size.symm XC.one ?_)
    | (refine wpList_load_want rfl _ _ rfl w.heap.size rfl _ (pfA p) (0, 0) _ H2.out.bp huP rfl XP.info ?_)
    | (refine wpList_load_want rfl _ _ rfl (w.heap.size + 1) rfl _ (pfA q) (0, 0) _ H2.out.bq huP rfl XQ.info ?_))
  refine (M2.out _).mono ?_
  rintro e w3 ⟨rfl, hb3⟩
  have H3 := (H2.out.next hb3).next (belowA w3 (.cells (pfA c) 24))
  have B3 := (B2.out.below hb3 B2.out.lt).alloc (.cells (pfA c) 24)
  have D3 := Blk.new w3 24 (pfA c)
  obtain ⟨g1, hg1⟩ : ∃ g, g = w2.heap.size := ⟨_, rfl⟩
  obtain ⟨g2, hg2⟩ : ∃ g, g = w3.heap.size := ⟨_, rfl⟩
  have HH : Hid (PR8 w (w3.alloc (.cells (pfA c) 24)) g1 g2 p q c) := Lib.hid ⟨H3.bp, H3.bq, by rw [hg1]; exact B3, by rw [hg2]; exact D3, H3.below⟩
  clear hb3 H3 B3 D3
  go_wp2_with (refine wpList_store_new rfl _ _ _ rfl (pfA c) rfl rfl _ _ XC.info XC.size.symm XC.one ?_)
  rw [← hg1, ← hg2]
  clear hg1 hg2
  refine wp_region_held_drew (S := fun W => PR8 w W g1 g2 p q c) (by kernel_rfl) HH.out.drew (fun hHeld => ?_)
  refine wpAnyH_take (i := 0) rfl (by kernel_rfl) (by kernel_rfl) (by kernel_rfl) (fun _ _ _ h => h) (yieldsIf_load_row (by rfl) _ _ rfl (w.heap.size) rfl _ (pfA p) _ (fun w h => h.bp) huP rfl XP.info) (by assumption) ?_
  simp only [Act.put, List.setIfInBounds_toArray, List.set_cons_zero, List.set_cons_succ, List.getElem_toArray, List.getElem_cons_zero, List.getElem_cons_succ]
  refine wpAnyH_take (i := 1) rfl (by kernel_rfl) (by kernel_rfl) (by kernel_rfl) (fun _ _ _ h => h) (yieldsIf_load_row (by rfl) _ _ rfl (w.heap.size + 1) rfl _ (pfA q) _ (fun w h => h.bq) huP rfl XQ.info) (by assumption) ?_
  simp only [Act.put, List.setIfInBounds_toArray, List.set_cons_zero, List.set_cons_succ, List.getElem_toArray, List.getElem_cons_zero, List.getElem_cons_succ]
  refine wpAnyH_take (i := 3) rfl (by kernel_rfl) (by kernel_rfl) (by kernel_rfl) (fun _ _ _ h => h) (yieldsIf_load_row (by rfl) _ _ rfl (w.heap.size) rfl _ (pfA p) _ (fun w h => h.bp) huP rfl XP.info) (by assumption) ?_
  simp only [Act.put, List.setIfInBounds_toArray, List.set_cons_zero, List.set_cons_succ, List.getElem_toArray, List.getElem_cons_zero, List.getElem_cons_succ]
  refine wpAnyH_take (i := 4) rfl (by kernel_rfl) (by kernel_rfl) (by kernel_rfl) (fun _ _ _ h => h) (yieldsIf_load_row (by rfl) _ _ rfl (w.heap.size + 1) rfl _ (pfA q) _ (fun w h => h.bq) huP rfl XQ.info) (by assumption) ?_
  simp only [Act.put, List.setIfInBounds_toArray, List.set_cons_zero, List.set_cons_succ, List.getElem_toArray, List.getElem_cons_zero, List.getElem_cons_succ]
  refine held_step (i := 2) rfl (by kernel_rfl) (by rfl) (fun K hK => ?_)
  go_simp
  refine (C1.out _).mono ?_; rintro e v1 ⟨rfl, hc1⟩
  go_wp2_with fail
  refine hK.out _ _ (PR8.next (by assumption) hc1) (fun hHeld => ?_)
  clear hK K
  try simp only [Act.put, List.setIfInBounds_toArray, List.set_cons_zero, List.set_cons_succ, List.getElem_toArray, List.getElem_cons_zero, List.getElem_cons_succ]
  refine held_step (i := 5) rfl (by kernel_rfl) (by rfl) (fun K hK => ?_)
  go_simp
  refine (C2.out _).mono ?_; rintro e v2 ⟨rfl, hc2⟩
  go_wp2_with fail
  refine hK.out _ _ (PR8.next (by assumption) hc2) (fun hHeld => ?_)
  clear hK K
  try simp only [Act.put, List.setIfInBounds_toArray, List.set_cons_zero, List.set_cons_succ, List.getElem_toArray, List.getElem_cons_zero, List.getElem_cons_succ]
  refine wpAnyH_take (i := 6) (v := ?_) rfl (by kernel_rfl) (by kernel_rfl) (by kernel_rfl) (fun _ _ _ h => h) (Or.inl ⟨by rfl, ?_⟩) (by assumption) ?_
  rotate_left
  · intro w hSw; go_simp; try with_reducible rfl
  simp only [Act.put, List.setIfInBounds_toArray, List.set_cons_zero, List.set_cons_succ, List.getElem_toArray, List.getElem_cons_zero, List.getElem_cons_succ]
  refine wpAnyH_take (i := 7) (v := ?_) rfl (by kernel_rfl) (by kernel_rfl) (by kernel_rfl) (fun _ _ _ h => h) (Or.inl ⟨by rfl, ?_⟩) (by assumption) ?_
  rotate_left
  · intro w hSw; go_simp; try with_reducible rfl
  simp only [Act.put, List.setIfInBounds_toArray, List.set_cons_zero, List.set_cons_succ, List.getElem_toArray, List.getElem_cons_zero, List.getElem_cons_succ]
  refine wpAnyH_take (i := 8) rfl (by kernel_rfl) (by kernel_rfl) (by kernel_rfl) (fun _ _ _ h => h) (yieldsIf_load_row (by rfl) _ _ rfl (g1) rfl _ (pfA c) _ (fun w h => h.b1) huP rfl XC.info) (by assumption) ?_
  simp only [Act.put, List.setIfInBounds_toArray, List.set_cons_zero, List.set_cons_succ, List.getElem_toArray, List.getElem_cons_zero, List.getElem_cons_succ]
  refine wpAnyH_take (i := 9) rfl (by kernel_rfl) (by kernel_rfl) (by kernel_rfl) (fun _ _ _ h => h) (yieldsIf_load_row (by rfl) _ _ rfl (g2) rfl _ (pfA c) _ (fun w h => h.b2) huP rfl XC.info) (by assumption) ?_
  simp only [Act.put, List.setIfInBounds_toArray, List.set_cons_zero, List.set_cons_succ, List.getElem_toArray, List.getElem_cons_zero, List.getElem_cons_succ]
  refine wpAnyH_take (i := 10) (v := ?_) rfl (by kernel_rfl) (by kernel_rfl) (by kernel_rfl) (fun _ _ _ h => h) (Or.inl ⟨by rfl, ?_⟩) (by assumption) ?_
  rotate_left
  · intro w hSw; go_simp; try with_reducible rfl
  simp only [Act.put, List.setIfInBounds_toArray, List.set_cons_zero, List.set_cons_succ, List.getElem_toArray, List.getElem_cons_zero, List.getElem_cons_succ]
  refine wpAnyH_take (i := 11) (v := ?_) rfl (by kernel_rfl) (by kernel_rfl) (by kernel_rfl) (fun _ _ _ h => h) (Or.inl ⟨by rfl, ?_⟩) (by assumption) ?_
  rotate_left
  · intro w hSw; go_simp; try with_reducible rfl
  simp only [Act.put, List.setIfInBounds_toArray, List.set_cons_zero, List.set_cons_succ, List.getElem_toArray, List.getElem_cons_zero, List.getElem_cons_succ]
  refine wpAnyH_take (i := 12) (v := ?_) rfl (by kernel_rfl) (by kernel_rfl) (by kernel_rfl) (fun _ _ _ h => h) (Or.inl ⟨by rfl, ?_⟩) (by assumption) ?_
  rotate_left
  · intro w hSw; go_simp; try with_reducible rfl
  simp only [Act.put, List.setIfInBounds_toArray, List.set_cons_zero, List.set_cons_succ, List.getElem_toArray, List.getElem_cons_zero, List.getElem_cons_succ]
  refine wpAnyH_take (i := 13) (v := ?_) rfl (by kernel_rfl) (by kernel_rfl) (by kernel_rfl) (fun _ _ _ h => h) (Or.inl ⟨by rfl, ?_⟩) (by assumption) ?_
  rotate_left
  · intro w hSw; go_simp; try with_reducible rfl
  simp only [Act.put, List.setIfInBounds_toArray, List.set_cons_zero, List.set_cons_succ, List.getElem_toArray, List.getElem_cons_zero, List.getElem_cons_succ]
  refine wpAnyH_take (i := 14) (v := ?_) rfl (by kernel_rfl) (by kernel_rfl) (by kernel_rfl) (fun _ _ _ h => h) (Or.inl ⟨by rfl, ?_⟩) (by assumption) ?_
  rotate_left
  · intro w hSw; go_simp; try with_reducible rfl
  simp only [Act.put, List.setIfInBounds_toArray, List.set_cons_zero, List.set_cons_succ, List.getElem_toArray, List.getElem_cons_zero, List.getElem_cons_succ]
  refine wpAnyH_take (i := 15) (v := ?_) rfl (by kernel_rfl) (by kernel_rfl) (by kernel_rfl) (fun _ _ _ h => h) (Or.inl ⟨by rfl, ?_⟩) (by assumption) ?_
  rotate_left
  · intro w hSw; go_simp; try with_reducible rfl
  simp only [Act.put, List.setIfInBounds_toArray, List.set_cons_zero, List.set_cons_succ, List.getElem_toArray, List.getElem_cons_zero, List.getElem_cons_succ]
  refine wpAnyH_take (i := 16) (v := ?_) rfl (by kernel_rfl) (by kernel_rfl) (by kernel_rfl) (fun _ _ _ h => h) (Or.inl ⟨by rfl, ?_⟩) (by assumption) ?_
  rotate_left
  · intro w hSw; go_simp; try with_reducible rfl
  simp only [Act.put, List.setIfInBounds_toArray, List.set_cons_zero, List.set_cons_succ, List.getElem_toArray, List.getElem_cons_zero, List.getElem_cons_succ]
  refine wpAnyH_take (i := 17) (v := ?_) rfl (by kernel_rfl) (by kernel_rfl) (by kernel_rfl) (fun _ _ _ h => h) (Or.inl ⟨by rfl, ?_⟩) (by assumption) ?_
  rotate_left
  · intro w hSw; go_simp; try with_reducible rfl
  simp only [Act.put, List.setIfInBounds_toArray, List.set_cons_zero, List.set_cons_succ, List.getElem_toArray, List.getElem_cons_zero, List.getElem_cons_succ]
  refine wpAnyH_take (i := 18) rfl (by kernel_rfl) (by kernel_rfl) (by kernel_rfl) (fun _ _ _ h => h) (yieldsIf_load_row (by rfl) _ _ rfl (w.heap.size) rfl _ (pfA p) _ (fun w h => h.bp) huP rfl XP.info) (by assumption) ?_
  simp only [Act.put, List.setIfInBounds_toArray, List.set_cons_zero, List.set_cons_succ, List.getElem_toArray, List.getElem_cons_zero, List.getElem_cons_succ]
  refine wpAnyH_take (i := 19) rfl (by kernel_rfl) (by kernel_rfl) (by kernel_rfl) (fun _ _ _ h => h) (yieldsIf_load_row (by rfl) _ _ rfl (w.heap.size + 1) rfl _ (pfA q) _ (fun w h => h.bq) huP rfl XQ.info) (by assumption) ?_
  simp only [Act.put, List.setIfInBounds_toArray, List.set_cons_zero, List.set_cons_succ, List.getElem_toArray, List.getElem_cons_zero, List.getElem_cons_succ]
  refine wpAnyH_take (i := 21) rfl (by kernel_rfl) (by kernel_rfl) (by kernel_rfl) (fun _ _ _ h => h) (yieldsIf_load_row (by rfl) _ _ rfl (w.heap.size) rfl _ (pfA p) _ (fun w h => h.bp) huP rfl XP.info) (by assumption) ?_
  simp only [Act.put, List.setIfInBounds_toArray, List.set_cons_zero, List.set_cons_succ, List.getElem_toArray, List.getElem_cons_zero, List.getElem_cons_succ]
  refine wpAnyH_take (i := 22) rfl (by kernel_rfl) (by kernel_rfl) (by kernel_rfl) (fun _ _ _ h => h) (yieldsIf_load_row (by rfl) _ _ rfl (w.heap.size + 1) rfl _ (pfA q) _ (fun w h => h.bq) huP rfl XQ.info) (by assumption) ?_
  simp only [Act.put, List.setIfInBounds_toArray, List.set_cons_zero, List.set_cons_succ, List.getElem_toArray, List.getElem_cons_zero, List.getElem_cons_succ]
  refine held_step (i := 20) rfl (by kernel_rfl) (by rfl) (fun K hK => ?_)
  go_simp
  refine (K1.out _).mono ?_; rintro e v3 ⟨rfl, hc3⟩
  go_wp2_with fail
  refine hK.out _ _ (PR8.next (by assumption) hc3) (fun hHeld => ?_)
  clear hK K
  try simp only [Act.put, List.setIfInBounds_toArray, List.set_cons_zero, List.set_cons_succ, List.getElem_toArray, List.getElem_cons_zero, List.getElem_cons_succ]
  refine held_step (i := 23) rfl (by kernel_rfl) (by rfl) (fun K hK => ?_)
  go_simp
  refine (K2.out _).mono ?_; rintro e v4 ⟨rfl, hc4⟩
  go_wp2_with fail
  refine hK.out _ _ (PR8.next (by assumption) hc4) (fun hHeld => ?_)
  clear hK K
  try simp only [Act.put, List.setIfInBounds_toArray, List.set_cons_zero, List.set_cons_succ, List.getElem_toArray, List.getElem_cons_zero, List.getElem_cons_succ]
  refine wpAnyH_take (i := 24) (v := ?_) rfl (by kernel_rfl) (by kernel_rfl) (by kernel_rfl) (fun _ _ _ h => h) (Or.inl ⟨by rfl, ?_⟩) (by assumption) ?_
  rotate_left
  · intro w hSw; go_simp; try with_reducible rfl
  simp only [Act.put, List.setIfInBounds_toArray, List.set_cons_zero, List.set_cons_succ, List.getElem_toArray, List.getElem_cons_zero, List.getElem_cons_succ]
  refine wpAnyH_take (i := 25) (v := ?_) rfl (by kernel_rfl) (by kernel_rfl) (by kernel_rfl) (fun _ _ _ h => h) (Or.inl ⟨by rfl, ?_⟩) (by assumption) ?_
  rotate_left
  · intro w hSw; go_simp; try with_reducible rfl
  simp only [Act.put, List.setIfInBounds_toArray, List.set_cons_zero, List.set_cons_succ, List.getElem_toArray, List.getElem_cons_zero, List.getElem_cons_succ]
  refine wpAnyH_take (i := 26) (v := ?_) rfl (by kernel_rfl) (by kernel_rfl) (by kernel_rfl) (fun _ _ _ h => h) (Or.inl ⟨by rfl, ?_⟩) (by assumption) ?_
  rotate_left
  · intro w hSw; go_simp; try with_reducible rfl
  simp only [Act.put, List.setIfInBounds_toArray, List.set_cons_zero, List.set_cons_succ, List.getElem_toArray, List.getElem_cons_zero, List.getElem_cons_succ]
  refine wpAnyH_done (by kernel_rfl) ?_ _
  go_wp2_with fail
  go_ret
  exact ⟨by first | rfl | simp, PR8.below (by assumption)⟩
end Go.Proofs.YtjbolphfelakeaaGreatDoor
