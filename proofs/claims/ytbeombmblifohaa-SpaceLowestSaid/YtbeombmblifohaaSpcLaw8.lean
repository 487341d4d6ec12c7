/- SpaceRuns. -/
import Derived.Test.YtbeombmblifohaaSpcLaw4
import Derived.Test.YtbeombmblifohaaHeld2
namespace Go.Proofs.Ytbeombmblifohaa
set_option linter.unusedVariables false
set_option linter.unusedSimpArgs false
open Go.RowKit Go.Shelf Go.Proofs

section
variable {w W : World} {g : Nat} {r : Option Nat} {m mb ms q : Sp.Spc} {vL vb vs v : Value} {z s : Nat}
/-- a new block is apart from both spaces -/
theorem RW.fresh (h : RW w W g r m vL z mb vb) (q : Sp.Spc) (v : Value) : RW w (W.alloc (.cells (sA q v) 31)) g r m vL W.heap.size q v := by
  have hn := h.next (belowA W (.cells (sA q v) 31))
  refine ⟨hn.A, hn.d, Blk.new _ _ _, h.A.bel.size, by have := h.A.S.lt; omega, fun e => by have := (h.A.S.row _ e.symm).2; omega, fun e => by have := h.d.1.own_lt _ e; omega, fun k hk a n c hc => ?_⟩
  have := (h.A.S.slices k hk a n c (by rw [← (belowA W _).cell (p := ⟨g, k, none⟩) h.A.S.lt]; exact hc)).1
  omega
theorem RW.two (h : RW w W g r m vL z mb vb) (h2 : RW w W g r m vL s ms vs) (hzs : z ≠ s) (q : Sp.Spc) (v : Value) : RW w (W.setRow s (sA q v)) g r m vL z mb vb ∧ Blk (W.setRow s (sA q v)) s 31 (sA q v) := by
  have hs := h2.row q v
  refine ⟨⟨hs.A, hs.d, h.b.otherRow _ _ hzs, h.hz, h.n1, h.n2, h.n3, fun k hk a n c hc => h.n4 k hk a n c ?_⟩, hs.b⟩
  rw [← hc]
  exact (World.cell?_of_block (a := ⟨g, k, none⟩) (setRow_other W s g _ (Ne.symm h2.n1))).symm
theorem SR.row (h : SR w W z m vL) (hz : z ≠ s) (hs : w.heap.size ≤ s) (cs : Array Value) : SR w (W.setRow s cs) z m vL := ⟨h.b.otherRow _ _ hz, below_setRow h.bel hs _⟩
end
theorem zero_lit : sA Sp.spc0 (.slice none 0 0) = (#[.int .i64 0, .int .i64 0, .int .i64 0, .int .i64 0, .int .i64 0, .int .i64 0, .slice none 0 0] : Array Value) := rfl
theorem spc_dest (m : Sp.Spc) : ∃ x1 y1 x2 y2 L, m = ⟨(x1, y1), (x2, y2), L⟩ := ⟨_, _, _, _, _, rfl⟩
set_option maxRecDepth 100000 in
set_option maxHeartbeats 8000000 in
theorem law_runs12 (l : List Sp.Stp) (hsz : ∀ x ∈ l, -9223372036854775808 ≤ x.size ∧ x.size ≤ 9223372036854775807) (lab : Int) (v : Value) (w : World) (hv : SlR w 6 encStp v l) :
    Calls Try.prog 3 #[v, .int .i64 lab] w fun e w' => e = .returned (.bool true) ∧ Below w.heap.size w w' := by
  obtain ⟨p, cap, rfl, hc1, hc2, hR⟩ := hv
  have HRd := Lib.hid hR
  have HSZ := Lib.hid hsz
  clear hR hsz
  by_cases hlen : l.length ≤ 40
  · have e1 : decide (40 < (l.length : Int)) = false := by simp; omega
    go_enter Try.func3, Try.ntmps3
    go_wp2_with fail
    refine (law12_awake _).mono ?_
    rintro e w1 ⟨rfl, hb1⟩
    have HB1 := Lib.hid hb1
    clear hb1
    go_wp2_with fail
    refine (spc_New _).mono ?_
    rintro e w2 ⟨g, rfl, hg, hS, hb⟩
    have hA : AW w w2 g none Sp.spc0 := ⟨hS, HB1.out.trans (hb.mono HB1.out.size), by have := HB1.out.size; omega, fun b e => by cases e⟩
    have H0 := Lib.hid (RW.first hA)
    clear hS hb hg hA
    simp only [sA, Sp.spc0] at H0
    go_wp2_with fail
    go_loopw [8] (fun vi wr => ∃ n : Nat, n ≤ l.length ∧ vi = .int .i64 n ∧ Hid (∃ r m vL, m = Sp.runR Sp.spc0 (l.take n) ∧ RW w wr g r m vL w2.heap.size m vL)) (fun vi _ => l.length - (intOf vi).toNat)
    case atStart => exact ⟨0, Nat.zero_le _, rfl, Lib.hid ⟨_, _, _, rfl, H0.out⟩⟩
    case round =>
      obtain ⟨n, hn, rfl, HX⟩ := hrel
      obtain ⟨r, m, vL, hm, hR⟩ := HX.out
      have hwf := Sp.run_wf (l.take n) Sp.wf0
      rw [← hm] at hwf
      obtain ⟨hwf, hll⟩ := hwf
      have hll' : m.L.length ≤ 40 := by simp [Sp.spc0] at hll; omega
      have HWF := Lib.hid hwf
      have HM := Lib.hid hm
      have HR := Lib.hid hR
      clear HX hwf hm hR hll H0
      by_cases hlt : n < l.length
      · obtain ⟨x, hx⟩ : ∃ x, l[n]? = some x := ⟨_, List.getElem?_eq_getElem hlt⟩
        have hxx : l[n] = x := (List.getElem?_eq_some_iff.1 hx).2
        have HN : Hid (Sp.runR Sp.spc0 (l.take (n + 1)) = Sp.stepR m x) := Lib.hid (by rw [List.take_succ_eq_append_getElem hlt, hxx, Sp.run_snoc, ← HM.out])
        have hxs := HSZ.out x (List.mem_of_getElem? hx)
        have hwf2 := Sp.step_wf HWF.out x
        have HO := Lib.hid fun (W : World) (h : RW w W g r m vL w2.heap.size m vL) => law_do g r m HWF.out (by omega) x hxs.1 hxs.2 vL W h.A.S h.d
        obtain ⟨hq2, hql⟩ := hwf2
        have HWF2 := Lib.hid hq2
        generalize Sp.stepR m x = q at HN HO hql HWF2
        clear hq2
        obtain ⟨bb, off, rfl, hbs, -⟩ := HRd.out.at hlt
        have HCL : Hid (∀ W, Below w.heap.size w W → ∀ j u, (encStp x)[j]? = some u → W.cell? ⟨bb, off + n * 6 + j, none⟩ = some u) := Lib.hid fun W hW => by
          have := (HRd.out.below hW (Nat.le_refl _)).in hlt
          rw [hxx] at this
          exact this
        have hqL : q.L.length ≤ 1000 := by omega
        clear hx hxx hxs hql
        obtain ⟨p0, c0, hv0, -, -, -⟩ := id HR.out.d.1
        subst hv0
        have HSR : Hid (SR w wr.drew w2.heap.size m (.slice p0 m.L.length c0)) := Lib.hid ⟨HR.out.drew.b, HR.out.drew.A.bel⟩
        have OW := Lib.hid fun (k : Int) (r : Option Nat) (W : World) (h : SpcR W g r q) => spc_Owner g k q (by omega) r W h
        have OD := Lib.hid fun (k : Int) (v : Value) (W : World) (h : SlR W 4 encBk v q.L) => r12_Owner q (by omega) v k W h
        go_wp2_with fail
        refine wp_region_held_drew (S := fun W => SR w W w2.heap.size m (.slice p0 m.L.length c0)) (by kernel_rfl) HSR.out (fun hHeld => ?_)
        refine wpAnyH_take (i := 0) (v := ?_) rfl (by kernel_rfl) (by kernel_rfl) (by kernel_rfl) (fun _ _ _ h => h) (Or.inl ⟨by rfl, ?_⟩) (by assumption) ?_
        rotate_left
        · intro w hSw; go_simp; try with_reducible rfl
        simp only [Act.put, List.setIfInBounds_toArray, List.set_cons_zero, List.set_cons_succ, List.getElem_toArray, List.getElem_cons_zero, List.getElem_cons_succ]
        refine wpAnyH_take (i := 1) rfl (by kernel_rfl) (by kernel_rfl) (by kernel_rfl) (fun _ _ _ h => h) (yieldsIf_load_row (by rfl) _ _ rfl (w2.heap.size) rfl _ (sA m (.slice p0 m.L.length c0)) _ (fun w h => h.b) Try.underlying31 rfl infoS) (by assumption) ?_
        simp only [Act.put, List.setIfInBounds_toArray, List.set_cons_zero, List.set_cons_succ, List.getElem_toArray, List.getElem_cons_zero, List.getElem_cons_succ]
        refine wpAnyH_take (i := 2) (v := ?_) rfl (by kernel_rfl) (by kernel_rfl) (by kernel_rfl) (fun _ _ _ h => h) (Or.inl ⟨by rfl, ?_⟩) (by assumption) ?_
        rotate_left
        · intro w hSw; go_simp; try with_reducible rfl
        simp only [Act.put, List.setIfInBounds_toArray, List.set_cons_zero, List.set_cons_succ, List.getElem_toArray, List.getElem_cons_zero, List.getElem_cons_succ]
        refine wpAnyH_take (i := 3) (v := ?_) rfl (by kernel_rfl) (by kernel_rfl) (by kernel_rfl) (fun _ _ _ h => h) (Or.inl ⟨by rfl, ?_⟩) (by assumption) ?_
        rotate_left
        · intro w hSw; go_simp; try with_reducible rfl
        simp only [Act.put, List.setIfInBounds_toArray, List.set_cons_zero, List.set_cons_succ, List.getElem_toArray, List.getElem_cons_zero, List.getElem_cons_succ]
        refine wpAnyH_take (i := 4) (v := ?_) rfl (by kernel_rfl) (by kernel_rfl) (by kernel_rfl) (fun _ _ _ h => h) (Or.inl ⟨by rfl, ?_⟩) (by assumption) ?_
        rotate_left
        · intro w hSw; go_simp; try with_reducible rfl
        simp only [Act.put, List.setIfInBounds_toArray, List.set_cons_zero, List.set_cons_succ, List.getElem_toArray, List.getElem_cons_zero, List.getElem_cons_succ]
        refine wpAnyH_take (i := 5) (v := ?_) rfl (by kernel_rfl) (by kernel_rfl) (by kernel_rfl) (fun _ _ _ h => h) (Or.inl ⟨by rfl, ?_⟩) (by assumption) ?_
        rotate_left
        · intro w h; have hcl := HCL.out _ h.bel; have k0 := hcl 0 _ rfl; have k1 := hcl 1 _ rfl; have k2 := hcl 2 _ rfl; have k3 := hcl 3 _ rfl; have k4 := hcl 4 _ rfl; have k5 := hcl 5 _ rfl; simp only [Nat.add_zero] at k0; go_simp; try with_reducible rfl
        simp only [Act.put, List.setIfInBounds_toArray, List.set_cons_zero, List.set_cons_succ, List.getElem_toArray, List.getElem_cons_zero, List.getElem_cons_succ]
        refine held_two (i := 6) (j := 10) rfl rfl (by kernel_rfl) (by rfl) (by rfl) (fun K hK => ?_) (fun K hK => ?_)
        · go_simp
          refine (HO.out _ HR.out.drew).mono ?_; rintro e w4 ⟨v4, r4, rfl, hB⟩; have hR4 := RW.step (HR.out.drew) hB; obtain ⟨p4, c4, hv4, -, -, -⟩ := id hB.d.1; subst hv4
          go_wp2_with fail
          refine hK.out _ _ ⟨hR4.b, hR4.A.bel⟩ (fun hHeld => ?_)
          clear hK K
          try simp only [Act.put, List.setIfInBounds_toArray, List.set_cons_zero, List.set_cons_succ, List.getElem_toArray, List.getElem_cons_zero, List.getElem_cons_succ]
          refine wpAnyH_take (i := 7) (v := ?_) rfl (by kernel_rfl) (by kernel_rfl) (by kernel_rfl) (fun _ _ _ h => h) (Or.inl ⟨by rfl, ?_⟩) (by assumption) ?_
          rotate_left
          · intro w hSw; go_simp; try with_reducible rfl
          simp only [Act.put, List.setIfInBounds_toArray, List.set_cons_zero, List.set_cons_succ, List.getElem_toArray, List.getElem_cons_zero, List.getElem_cons_succ]
          refine wpAnyH_take (i := 8) (v := ?_) rfl (by kernel_rfl) (by kernel_rfl) (by kernel_rfl) (fun _ _ _ h => h) (Or.inl ⟨by rfl, ?_⟩) (by assumption) ?_
          rotate_left
          · intro w hSw; go_simp; try with_reducible rfl
          simp only [Act.put, List.setIfInBounds_toArray, List.set_cons_zero, List.set_cons_succ, List.getElem_toArray, List.getElem_cons_zero, List.getElem_cons_succ]
          refine wpAnyH_take (i := 9) (v := ?_) rfl (by kernel_rfl) (by kernel_rfl) (by kernel_rfl) (fun _ _ _ h => h) (Or.inl ⟨by rfl, ?_⟩) (by assumption) ?_
          rotate_left
          · intro w hSw; go_simp; try with_reducible rfl
          simp only [Act.put, List.setIfInBounds_toArray, List.set_cons_zero, List.set_cons_succ, List.getElem_toArray, List.getElem_cons_zero, List.getElem_cons_succ]
          refine held_step (i := 10) rfl (by kernel_rfl) (by rfl) (fun K hK => ?_)
          go_simp
          refine hK.out _ _ (hHeld.next (belowA _ _)) (fun hHeld => ?_)
          clear hK K
          try simp only [Act.put, List.setIfInBounds_toArray, List.set_cons_zero, List.set_cons_succ, List.getElem_toArray, List.getElem_cons_zero, List.getElem_cons_succ]
          have hF := RW.fresh hR4 Sp.spc0 (.slice none 0 0)
          refine held_step (i := 11) rfl (by kernel_rfl) (by rfl) (fun K hK => ?_)
          refine wp_store_row _ _ _ rfl (w4.heap.size) (_) rfl rfl _ (_) (hF.b) infoS (rfl) (oneS _ _ _ _) ?_
          refine hK.out _ _ (SR.row hHeld (by have := hR4.b.lt; omega) hR4.A.bel.size _) (fun hHeld => ?_)
          clear hK K
          try simp only [Act.put, List.setIfInBounds_toArray, List.set_cons_zero, List.set_cons_succ, List.getElem_toArray, List.getElem_cons_zero, List.getElem_cons_succ]
          refine wpAnyH_take (i := 12) (v := ?_) rfl (by kernel_rfl) (by kernel_rfl) (by kernel_rfl) (fun _ _ _ h => h) (Or.inl ⟨by rfl, ?_⟩) (by assumption) ?_
          rotate_left
          · intro w hSw; go_simp; try with_reducible rfl
          simp only [Act.put, List.setIfInBounds_toArray, List.set_cons_zero, List.set_cons_succ, List.getElem_toArray, List.getElem_cons_zero, List.getElem_cons_succ]
          refine wpAnyH_done (by kernel_rfl) ?_ _
          have HT := Lib.hid (RW.two (hR4.next (belowA _ (.cells (sA Sp.spc0 (.slice none 0 0)) 31))) hF (by have := hR4.b.lt; omega) q (.slice p4 q.L.length c4))
          have H6 := Lib.hid (HT.out.1.row q (.slice p4 q.L.length c4))
          have k4 := HCL.out _ H6.out.A.bel 4 _ rfl
          try rw [zero_lit] at k4
          try rw [show wr.drew.heap.size = wr.heap.size from rfl] at k4
          go_wp2_with (first
            | (refine wpList_load_row rfl _ _ rfl _ rfl _ _ (0, 0) _ HT.out.2 Try.underlying31 rfl infoS ?_)
            | (refine wpList_store_row rfl _ _ _ rfl w2.heap.size (sA q (.slice p4 q.L.length c4)) rfl rfl _ _ HT.out.1.b infoS rfl (oneS _ _ _ _) ?_))
          refine (OW.out _ _ _ H6.out.A.S).mono ?_
          rintro e w7 ⟨rfl, hb7⟩
          have H7 := Lib.hid (H6.out.next hb7)
          have HSR7 : Hid (SR w w7.drew w2.heap.size q (.slice p4 q.L.length c4)) := Lib.hid ⟨H7.out.drew.b, H7.out.drew.A.bel⟩
          clear hb7 k4
          go_wp2_with fail
          refine wp_region_held_drew (S := fun W => SR w W w2.heap.size q (.slice p4 q.L.length c4)) (by kernel_rfl) HSR7.out (fun hHeld => ?_)
          refine wpAnyH_take (i := 0) rfl (by kernel_rfl) (by kernel_rfl) (by kernel_rfl) (fun _ _ _ h => h) (yieldsIf_load_row (by rfl) _ _ rfl (w2.heap.size) rfl _ (sA q (.slice p4 q.L.length c4)) _ (fun w h => h.b) Try.underlying31 rfl infoS) (by assumption) ?_
          simp only [Act.put, List.setIfInBounds_toArray, List.set_cons_zero, List.set_cons_succ, List.getElem_toArray, List.getElem_cons_zero, List.getElem_cons_succ]
          refine wpAnyH_take (i := 1) (v := ?_) rfl (by kernel_rfl) (by kernel_rfl) (by kernel_rfl) (fun _ _ _ h => h) (Or.inl ⟨by rfl, ?_⟩) (by assumption) ?_
          rotate_left
          · intro w hSw; go_simp; try with_reducible rfl
          simp only [Act.put, List.setIfInBounds_toArray, List.set_cons_zero, List.set_cons_succ, List.getElem_toArray, List.getElem_cons_zero, List.getElem_cons_succ]
          refine wpAnyH_take (i := 2) (v := ?_) rfl (by kernel_rfl) (by kernel_rfl) (by kernel_rfl) (fun _ _ _ h => h) (Or.inl ⟨by rfl, ?_⟩) (by assumption) ?_
          rotate_left
          · intro w hSw; go_simp; try with_reducible rfl
          simp only [Act.put, List.setIfInBounds_toArray, List.set_cons_zero, List.set_cons_succ, List.getElem_toArray, List.getElem_cons_zero, List.getElem_cons_succ]
          refine wpAnyH_take (i := 3) (v := ?_) rfl (by kernel_rfl) (by kernel_rfl) (by kernel_rfl) (fun _ _ _ h => h) (Or.inl ⟨by rfl, ?_⟩) (by assumption) ?_
          rotate_left
          · intro w hSw; go_simp; try with_reducible rfl
          simp only [Act.put, List.setIfInBounds_toArray, List.set_cons_zero, List.set_cons_succ, List.getElem_toArray, List.getElem_cons_zero, List.getElem_cons_succ]
          refine wpAnyH_take (i := 4) (v := ?_) rfl (by kernel_rfl) (by kernel_rfl) (by kernel_rfl) (fun _ _ _ h => h) (Or.inl ⟨by rfl, ?_⟩) (by assumption) ?_
          rotate_left
          · intro w hSw; go_simp; try with_reducible rfl
          simp only [Act.put, List.setIfInBounds_toArray, List.set_cons_zero, List.set_cons_succ, List.getElem_toArray, List.getElem_cons_zero, List.getElem_cons_succ]
          refine wpAnyH_take (i := 5) (v := ?_) rfl (by kernel_rfl) (by kernel_rfl) (by kernel_rfl) (fun _ _ _ h => h) (Or.inl ⟨by rfl, ?_⟩) (by assumption) ?_
          rotate_left
          · intro w hSw; go_simp; try with_reducible rfl
          simp only [Act.put, List.setIfInBounds_toArray, List.set_cons_zero, List.set_cons_succ, List.getElem_toArray, List.getElem_cons_zero, List.getElem_cons_succ]
          refine wpAnyH_take (i := 6) (v := ?_) rfl (by kernel_rfl) (by kernel_rfl) (by kernel_rfl) (fun _ _ _ h => h) (Or.inl ⟨by rfl, ?_⟩) (by assumption) ?_
          rotate_left
          · intro w h; have k4 := HCL.out _ h.bel 4 _ rfl; go_simp; try with_reducible rfl
          simp only [Act.put, List.setIfInBounds_toArray, List.set_cons_zero, List.set_cons_succ, List.getElem_toArray, List.getElem_cons_zero, List.getElem_cons_succ]
          refine held_step (i := 7) rfl (by kernel_rfl) (by rfl) (fun K hK => ?_)
          go_simp
          refine (OD.out _ _ _ H7.out.drew.d.1).mono ?_; rintro e w8 ⟨rfl, hb8⟩; have H8 := H7.out.drew.next hb8
          go_wp2_with fail
          refine hK.out _ _ (⟨H8.b, H8.A.bel⟩) (fun hHeld => ?_)
          clear hK K
          try simp only [Act.put, List.setIfInBounds_toArray, List.set_cons_zero, List.set_cons_succ, List.getElem_toArray, List.getElem_cons_zero, List.getElem_cons_succ]
          refine wpAnyH_take (i := 8) (v := ?_) rfl (by kernel_rfl) (by kernel_rfl) (by kernel_rfl) (fun _ _ _ h => h) (Or.inl ⟨by rfl, ?_⟩) (by assumption) ?_
          rotate_left
          · intro w hSw; go_simp; try with_reducible rfl
          simp only [Act.put, List.setIfInBounds_toArray, List.set_cons_zero, List.set_cons_succ, List.getElem_toArray, List.getElem_cons_zero, List.getElem_cons_succ]
          refine wpAnyH_take (i := 9) (v := ?_) rfl (by kernel_rfl) (by kernel_rfl) (by kernel_rfl) (fun _ _ _ h => h) (Or.inl ⟨by rfl, ?_⟩) (by assumption) ?_
          rotate_left
          · intro w hSw; go_simp; try with_reducible rfl
          simp only [Act.put, List.setIfInBounds_toArray, List.set_cons_zero, List.set_cons_succ, List.getElem_toArray, List.getElem_cons_zero, List.getElem_cons_succ]
          refine wpAnyH_take (i := 10) (v := ?_) rfl (by kernel_rfl) (by kernel_rfl) (by kernel_rfl) (fun _ _ _ h => h) (Or.inl ⟨by rfl, ?_⟩) (by assumption) ?_
          rotate_left
          · intro w hSw; go_simp; try with_reducible rfl
          simp only [Act.put, List.setIfInBounds_toArray, List.set_cons_zero, List.set_cons_succ, List.getElem_toArray, List.getElem_cons_zero, List.getElem_cons_succ]
          refine wpAnyH_take (i := 11) (v := ?_) rfl (by kernel_rfl) (by kernel_rfl) (by kernel_rfl) (fun _ _ _ h => h) (Or.inl ⟨by rfl, ?_⟩) (by assumption) ?_
          rotate_left
          · intro w hSw; go_simp; try with_reducible rfl
          simp only [Act.put, List.setIfInBounds_toArray, List.set_cons_zero, List.set_cons_succ, List.getElem_toArray, List.getElem_cons_zero, List.getElem_cons_succ]
          refine wpAnyH_take (i := 12) (v := ?_) rfl (by kernel_rfl) (by kernel_rfl) (by kernel_rfl) (fun _ _ _ h => h) (Or.inl ⟨by rfl, ?_⟩) (by assumption) ?_
          rotate_left
          · intro w hSw; go_simp; try with_reducible rfl
          simp only [Act.put, List.setIfInBounds_toArray, List.set_cons_zero, List.set_cons_succ, List.getElem_toArray, List.getElem_cons_zero, List.getElem_cons_succ]
          refine wpAnyH_done (by kernel_rfl) ?_ _
          have H9 := Lib.hid H8
          go_wp2_with fail
          exact ⟨⟨n + 1, by omega, by go_num, Lib.hid ⟨_, _, _, HN.out.symm, H9.out⟩⟩, by simp [intOf]; omega⟩
        · go_simp
          refine hK.out _ _ (hHeld.next (belowA _ _)) (fun hHeld => ?_)
          clear hK K
          try simp only [Act.put, List.setIfInBounds_toArray, List.set_cons_zero, List.set_cons_succ, List.getElem_toArray, List.getElem_cons_zero, List.getElem_cons_succ]
          have hF := RW.fresh HR.out.drew Sp.spc0 (.slice none 0 0)
          have hN := HR.out.drew.next (belowA _ (.cells (sA Sp.spc0 (.slice none 0 0)) 31))
          refine held_step (i := 6) rfl (by kernel_rfl) (by rfl) (fun K hK => ?_)
          go_simp
          refine (HO.out _ hN).mono ?_; rintro e w4 ⟨v4, r4, rfl, hB⟩; have hF4 := RW.step hF hB; have hR4 := RW.step (hN) hB; obtain ⟨p4, c4, hv4, -, -, -⟩ := id hB.d.1; subst hv4
          go_wp2_with fail
          refine hK.out _ _ (⟨hR4.b, hR4.A.bel⟩) (fun hHeld => ?_)
          clear hK K
          try simp only [Act.put, List.setIfInBounds_toArray, List.set_cons_zero, List.set_cons_succ, List.getElem_toArray, List.getElem_cons_zero, List.getElem_cons_succ]
          refine wpAnyH_take (i := 7) (v := ?_) rfl (by kernel_rfl) (by kernel_rfl) (by kernel_rfl) (fun _ _ _ h => h) (Or.inl ⟨by rfl, ?_⟩) (by assumption) ?_
          rotate_left
          · intro w hSw; go_simp; try with_reducible rfl
          simp only [Act.put, List.setIfInBounds_toArray, List.set_cons_zero, List.set_cons_succ, List.getElem_toArray, List.getElem_cons_zero, List.getElem_cons_succ]
          refine wpAnyH_take (i := 8) (v := ?_) rfl (by kernel_rfl) (by kernel_rfl) (by kernel_rfl) (fun _ _ _ h => h) (Or.inl ⟨by rfl, ?_⟩) (by assumption) ?_
          rotate_left
          · intro w hSw; go_simp; try with_reducible rfl
          simp only [Act.put, List.setIfInBounds_toArray, List.set_cons_zero, List.set_cons_succ, List.getElem_toArray, List.getElem_cons_zero, List.getElem_cons_succ]
          refine wpAnyH_take (i := 9) (v := ?_) rfl (by kernel_rfl) (by kernel_rfl) (by kernel_rfl) (fun _ _ _ h => h) (Or.inl ⟨by rfl, ?_⟩) (by assumption) ?_
          rotate_left
          · intro w hSw; go_simp; try with_reducible rfl
          simp only [Act.put, List.setIfInBounds_toArray, List.set_cons_zero, List.set_cons_succ, List.getElem_toArray, List.getElem_cons_zero, List.getElem_cons_succ]
          refine held_step (i := 11) rfl (by kernel_rfl) (by rfl) (fun K hK => ?_)
          refine wp_store_row _ _ _ rfl (_) (_) rfl rfl _ (_) (hF4.b) infoS (rfl) (oneS _ _ _ _) ?_
          refine hK.out _ _ (SR.row hHeld (by have := HR.out.b.lt; simp; omega) (by have := HR.out.A.bel.size; simpa using this) _) (fun hHeld => ?_)
          clear hK K
          try simp only [Act.put, List.setIfInBounds_toArray, List.set_cons_zero, List.set_cons_succ, List.getElem_toArray, List.getElem_cons_zero, List.getElem_cons_succ]
          refine wpAnyH_take (i := 12) (v := ?_) rfl (by kernel_rfl) (by kernel_rfl) (by kernel_rfl) (fun _ _ _ h => h) (Or.inl ⟨by rfl, ?_⟩) (by assumption) ?_
          rotate_left
          · intro w hSw; go_simp; try with_reducible rfl
          simp only [Act.put, List.setIfInBounds_toArray, List.set_cons_zero, List.set_cons_succ, List.getElem_toArray, List.getElem_cons_zero, List.getElem_cons_succ]
          refine wpAnyH_done (by kernel_rfl) ?_ _
          have HT := Lib.hid (RW.two hR4 hF4 (by have := HR.out.b.lt; simp; omega) q (.slice p4 q.L.length c4))
          have H6 := Lib.hid (HT.out.1.row q (.slice p4 q.L.length c4))
          have k4 := HCL.out _ H6.out.A.bel 4 _ rfl
          try rw [zero_lit] at k4
          try rw [show wr.drew.heap.size = wr.heap.size from rfl] at k4
          go_wp2_with (first
            | (refine wpList_load_row rfl _ _ rfl _ rfl _ _ (0, 0) _ HT.out.2 Try.underlying31 rfl infoS ?_)
            | (refine wpList_store_row rfl _ _ _ rfl w2.heap.size (sA q (.slice p4 q.L.length c4)) rfl rfl _ _ HT.out.1.b infoS rfl (oneS _ _ _ _) ?_))
          refine (OW.out _ _ _ H6.out.A.S).mono ?_
          rintro e w7 ⟨rfl, hb7⟩
          have H7 := Lib.hid (H6.out.next hb7)
          have HSR7 : Hid (SR w w7.drew w2.heap.size q (.slice p4 q.L.length c4)) := Lib.hid ⟨H7.out.drew.b, H7.out.drew.A.bel⟩
          clear hb7 k4
          go_wp2_with fail
          refine wp_region_held_drew (S := fun W => SR w W w2.heap.size q (.slice p4 q.L.length c4)) (by kernel_rfl) HSR7.out (fun hHeld => ?_)
          refine wpAnyH_take (i := 0) rfl (by kernel_rfl) (by kernel_rfl) (by kernel_rfl) (fun _ _ _ h => h) (yieldsIf_load_row (by rfl) _ _ rfl (w2.heap.size) rfl _ (sA q (.slice p4 q.L.length c4)) _ (fun w h => h.b) Try.underlying31 rfl infoS) (by assumption) ?_
          simp only [Act.put, List.setIfInBounds_toArray, List.set_cons_zero, List.set_cons_succ, List.getElem_toArray, List.getElem_cons_zero, List.getElem_cons_succ]
          refine wpAnyH_take (i := 1) (v := ?_) rfl (by kernel_rfl) (by kernel_rfl) (by kernel_rfl) (fun _ _ _ h => h) (Or.inl ⟨by rfl, ?_⟩) (by assumption) ?_
          rotate_left
          · intro w hSw; go_simp; try with_reducible rfl
          simp only [Act.put, List.setIfInBounds_toArray, List.set_cons_zero, List.set_cons_succ, List.getElem_toArray, List.getElem_cons_zero, List.getElem_cons_succ]
          refine wpAnyH_take (i := 2) (v := ?_) rfl (by kernel_rfl) (by kernel_rfl) (by kernel_rfl) (fun _ _ _ h => h) (Or.inl ⟨by rfl, ?_⟩) (by assumption) ?_
          rotate_left
          · intro w hSw; go_simp; try with_reducible rfl
          simp only [Act.put, List.setIfInBounds_toArray, List.set_cons_zero, List.set_cons_succ, List.getElem_toArray, List.getElem_cons_zero, List.getElem_cons_succ]
          refine wpAnyH_take (i := 3) (v := ?_) rfl (by kernel_rfl) (by kernel_rfl) (by kernel_rfl) (fun _ _ _ h => h) (Or.inl ⟨by rfl, ?_⟩) (by assumption) ?_
          rotate_left
          · intro w hSw; go_simp; try with_reducible rfl
          simp only [Act.put, List.setIfInBounds_toArray, List.set_cons_zero, List.set_cons_succ, List.getElem_toArray, List.getElem_cons_zero, List.getElem_cons_succ]
          refine wpAnyH_take (i := 4) (v := ?_) rfl (by kernel_rfl) (by kernel_rfl) (by kernel_rfl) (fun _ _ _ h => h) (Or.inl ⟨by rfl, ?_⟩) (by assumption) ?_
          rotate_left
          · intro w hSw; go_simp; try with_reducible rfl
          simp only [Act.put, List.setIfInBounds_toArray, List.set_cons_zero, List.set_cons_succ, List.getElem_toArray, List.getElem_cons_zero, List.getElem_cons_succ]
          refine wpAnyH_take (i := 5) (v := ?_) rfl (by kernel_rfl) (by kernel_rfl) (by kernel_rfl) (fun _ _ _ h => h) (Or.inl ⟨by rfl, ?_⟩) (by assumption) ?_
          rotate_left
          · intro w hSw; go_simp; try with_reducible rfl
          simp only [Act.put, List.setIfInBounds_toArray, List.set_cons_zero, List.set_cons_succ, List.getElem_toArray, List.getElem_cons_zero, List.getElem_cons_succ]
          refine wpAnyH_take (i := 6) (v := ?_) rfl (by kernel_rfl) (by kernel_rfl) (by kernel_rfl) (fun _ _ _ h => h) (Or.inl ⟨by rfl, ?_⟩) (by assumption) ?_
          rotate_left
          · intro w h; have k4 := HCL.out _ h.bel 4 _ rfl; go_simp; try with_reducible rfl
          simp only [Act.put, List.setIfInBounds_toArray, List.set_cons_zero, List.set_cons_succ, List.getElem_toArray, List.getElem_cons_zero, List.getElem_cons_succ]
          refine held_step (i := 7) rfl (by kernel_rfl) (by rfl) (fun K hK => ?_)
          go_simp
          refine (OD.out _ _ _ H7.out.drew.d.1).mono ?_; rintro e w8 ⟨rfl, hb8⟩; have H8 := H7.out.drew.next hb8
          go_wp2_with fail
          refine hK.out _ _ (⟨H8.b, H8.A.bel⟩) (fun hHeld => ?_)
          clear hK K
          try simp only [Act.put, List.setIfInBounds_toArray, List.set_cons_zero, List.set_cons_succ, List.getElem_toArray, List.getElem_cons_zero, List.getElem_cons_succ]
          refine wpAnyH_take (i := 8) (v := ?_) rfl (by kernel_rfl) (by kernel_rfl) (by kernel_rfl) (fun _ _ _ h => h) (Or.inl ⟨by rfl, ?_⟩) (by assumption) ?_
          rotate_left
          · intro w hSw; go_simp; try with_reducible rfl
          simp only [Act.put, List.setIfInBounds_toArray, List.set_cons_zero, List.set_cons_succ, List.getElem_toArray, List.getElem_cons_zero, List.getElem_cons_succ]
          refine wpAnyH_take (i := 9) (v := ?_) rfl (by kernel_rfl) (by kernel_rfl) (by kernel_rfl) (fun _ _ _ h => h) (Or.inl ⟨by rfl, ?_⟩) (by assumption) ?_
          rotate_left
          · intro w hSw; go_simp; try with_reducible rfl
          simp only [Act.put, List.setIfInBounds_toArray, List.set_cons_zero, List.set_cons_succ, List.getElem_toArray, List.getElem_cons_zero, List.getElem_cons_succ]
          refine wpAnyH_take (i := 10) (v := ?_) rfl (by kernel_rfl) (by kernel_rfl) (by kernel_rfl) (fun _ _ _ h => h) (Or.inl ⟨by rfl, ?_⟩) (by assumption) ?_
          rotate_left
          · intro w hSw; go_simp; try with_reducible rfl
          simp only [Act.put, List.setIfInBounds_toArray, List.set_cons_zero, List.set_cons_succ, List.getElem_toArray, List.getElem_cons_zero, List.getElem_cons_succ]
          refine wpAnyH_take (i := 11) (v := ?_) rfl (by kernel_rfl) (by kernel_rfl) (by kernel_rfl) (fun _ _ _ h => h) (Or.inl ⟨by rfl, ?_⟩) (by assumption) ?_
          rotate_left
          · intro w hSw; go_simp; try with_reducible rfl
          simp only [Act.put, List.setIfInBounds_toArray, List.set_cons_zero, List.set_cons_succ, List.getElem_toArray, List.getElem_cons_zero, List.getElem_cons_succ]
          refine wpAnyH_take (i := 12) (v := ?_) rfl (by kernel_rfl) (by kernel_rfl) (by kernel_rfl) (fun _ _ _ h => h) (Or.inl ⟨by rfl, ?_⟩) (by assumption) ?_
          rotate_left
          · intro w hSw; go_simp; try with_reducible rfl
          simp only [Act.put, List.setIfInBounds_toArray, List.set_cons_zero, List.set_cons_succ, List.getElem_toArray, List.getElem_cons_zero, List.getElem_cons_succ]
          refine wpAnyH_done (by kernel_rfl) ?_ _
          have H9 := Lib.hid H8
          go_wp2_with fail
          exact ⟨⟨n + 1, by omega, by go_num, Lib.hid ⟨_, _, _, HN.out.symm, H9.out⟩⟩, by simp [intOf]; omega⟩
      · obtain rfl : n = l.length := by omega
        obtain ⟨p0, c0, hv0, -, -, -⟩ := id HR.out.d.1
        subst hv0
        have OW := Lib.hid fun (W : World) (h : SpcR W g r m) => spc_Owner g lab m (by omega) r W h
        have OD := Lib.hid fun (W : World) (h : SlR W 4 encBk (.slice p0 m.L.length c0) m.L) => r12_Owner m (by omega) (.slice p0 m.L.length c0) lab W h
        have XW := Lib.hid fun (W : World) (h : SpcR W g r m) => spc_Index' g lab m HWF.out r W h
        have XD := Lib.hid fun (W : World) => r12_Index m HWF.out (.slice p0 m.L.length c0) ⟨_, _, _, rfl⟩ lab W
        have SM := Lib.hid fun (W : World) (h : SpcR W g r m) (h2 : SlR W 4 encBk (.slice p0 m.L.length c0) m.L) => law_same g r m HWF.out (by omega) (.slice p0 m.L.length c0) W h h2
        go_wp2_with fail
        refine (OW.out _ HR.out.A.S).mono ?_
        rintro e w3 ⟨rfl, hb⟩
        have H3 := Lib.hid (HR.out.next hb)
        clear hb
        go_wp2_with (refine wpList_load_row rfl _ _ rfl _ rfl _ _ (0, 0) _ H3.out.b Try.underlying31 rfl infoS ?_)
        refine (OD.out _ H3.out.d.1).mono ?_
        rintro e w4 ⟨rfl, hb⟩
        have H4 := Lib.hid (H3.out.next hb)
        clear hb
        go_wp2_with fail
        refine (XW.out _ H4.out.A.S).mono ?_
        rintro e w5 ⟨rfl, hb⟩
        have H5 := Lib.hid (H4.out.next hb)
        clear hb
        go_wp2_with (refine wpList_load_row rfl _ _ rfl _ rfl _ _ (0, 0) _ H5.out.b Try.underlying31 rfl infoS ?_)
        refine (XD.out _).mono ?_
        rintro e w6 ⟨rfl, hb⟩
        have H6 := Lib.hid (H5.out.next hb)
        clear hb
        go_wp2_with (refine wpList_load_row rfl _ _ rfl _ rfl _ _ (0, 0) _ H6.out.b Try.underlying31 rfl infoS ?_)
        refine (SM.out _ H6.out.A.S H6.out.d.1).mono ?_
        rintro e w7 ⟨rfl, hb⟩
        have H7 := Lib.hid (H6.out.next hb)
        clear hb
        go_wp2_with fail
        go_ret
        exact ⟨rfl, H7.out.A.bel⟩
  · have e1 : decide (40 < (l.length : Int)) = true := by simp; omega
    go_enter Try.func3, Try.ntmps3
    go_wp2_with fail
    refine (law12_awake _).mono ?_
    rintro e w1 ⟨rfl, hb1⟩
    go_wp2_with fail
    go_ret
    exact ⟨rfl, hb1⟩
end Go.Proofs.Ytbeombmblifohaa
