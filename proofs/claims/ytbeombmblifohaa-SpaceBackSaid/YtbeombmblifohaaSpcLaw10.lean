/- SpaceBack. -/
import Derived.Test.YtbeombmblifohaaSpcArg
import Derived.Test.YtbeombmblifohaaSpcLaw8
import Derived.BigFrame
namespace Go.Proofs.Ytbeombmblifohaa
set_option linter.unusedVariables false
set_option linter.unusedSimpArgs false
open Go.RowKit Go.Shelf Go.Proofs

/-- a guarded load of a whole struct -/
theorem wpList_load_wantS {P : Program} {ops : Array Oper} {rest : List Oper} {o : Oper} {a : Act} {w : World} {Q : Exit → Act → World → Prop} (hw : Region.wanted o (yielded ops a.tmps) = true) (ty : TypeId) (x : Operand) (ho : o.op = .load ty x)
    (g : Nat) (hx : a.eval x = .pointer (some ⟨g, 0, none⟩)) (t : TypeId) (cs : Array Value) (fr : Nat × Nat) (d : TypeDesc) (hg : w.heap[g]? = some (.cells cs t fr))
    (hu : P.underlying ty = some d) (hd : (match d with | .struct _ | .array _ _ => true | _ => false) = true) (hi : (P.info? ty).map (·.size) = some cs.size)
    (h : wpList P ops Q rest (a.put o.dst (.agg cs)) w) : wpList P ops Q (o :: rest) a w :=
  BigFrame.wpList_want hw fun _ hK => wp_load_row ty x ho g hx t cs fr d hg hu hd hi (hK _ _ h)
/-- the space, and the document's, which stands still -/
structure RX (w W : World) (g : Nat) (r : Option Nat) (ms : Sp.Spc) (vL : Value) (md : Sp.Spc) (z : Nat) : Prop where
  A : AW w W g r ms
  d : SlF4 W g r vL md.L
  b : Blk W z 31 (sA md vL)
  n1 : z ≠ g
  n2 : some z ≠ r
section
variable {w W W' : World} {g : Nat} {r : Option Nat} {ms ms' md : Sp.Spc} {vL : Value} {z t : Nat} {a b : Int}
theorem RX.of (h : RW w W g r ms vL z ms vL) : RX w W g r ms vL ms z := ⟨h.A, h.d, h.b, h.n1, h.n2⟩
theorem RX.next (h : RX w W g r ms vL md z) (hb : Below W.heap.size W W') : RX w W' g r ms vL md z := ⟨h.A.next hb, ⟨h.d.1.below hb (Nat.le_refl _), h.d.2⟩, h.b.below hb h.b.lt, h.n1, h.n2⟩
theorem RX.step (h : RX w W g r ms vL md z) (hL : Left g r ms' W W') : ∃ r', RX w W' g r' ms' vL md z ∧ NewRow W r r' := by
  obtain ⟨r', h1, h2⟩ := h.A.step hL
  obtain ⟨_, _, _, fr, _⟩ := hL
  have hne : ∀ x, x < W.heap.size → some x ≠ r → some x ≠ r' := fun x hx hr e => by
    rcases h2 with e2 | ⟨c, e2, hc⟩
    · exact hr (e.trans e2)
    · rw [e2] at e; cases e; omega
  exact ⟨r', ⟨h1, ⟨fr.slr h.d.1 h.d.2, fun x hx => ⟨(h.d.2 x hx).1, hne x (h.d.1.own_lt x hx) (h.d.2 x hx).2⟩⟩, fr.blk h.b h.n1 h.n2, h.n1, hne z h.b.lt h.n2⟩, h2⟩
/-- and the span that was drawn -/
structure RY (w W : World) (g : Nat) (r : Option Nat) (ms : Sp.Spc) (vL : Value) (md : Sp.Spc) (z t : Nat) (a b : Int) : Prop where
  X : RX w W g r ms vL md z
  bt : Blk W t 27 #[.int .i64 a, .int .i64 b]
  t1 : t ≠ g
  t2 : some t ≠ r
theorem RY.next (h : RY w W g r ms vL md z t a b) (hb : Below W.heap.size W W') : RY w W' g r ms vL md z t a b := ⟨h.X.next hb, h.bt.below hb h.bt.lt, h.t1, h.t2⟩
theorem RY.step (h : RY w W g r ms vL md z t a b) (hL : Left g r ms' W W') : ∃ r', RY w W' g r' ms' vL md z t a b := by
  obtain ⟨r', h1, h2⟩ := h.X.step hL
  obtain ⟨_, _, _, fr, _⟩ := hL
  refine ⟨r', h1, fr.blk h.bt h.t1 h.t2, h.t1, fun e => ?_⟩
  rcases h2 with e2 | ⟨c, e2, hc⟩
  · exact h.t2 (e.trans e2)
  · rw [e2] at e; cases e; have := h.bt.lt; omega
theorem RY.fresh (h : RX w W g r ms vL md z) (a b : Int) : RY w (W.alloc (.cells #[.int .i64 a, .int .i64 b] 27)) g r ms vL md z W.heap.size a b :=
  ⟨h.next (belowA _ _), Blk.new _ _ _, by have := h.A.S.lt; omega, fun e => by have := (h.A.S.row _ e.symm).2; omega⟩
end
set_option maxRecDepth 100000 in
set_option maxHeartbeats 8000000 in
theorem law_back12 (l : List Sp.Stp) (hsz : ∀ x ∈ l, -9223372036854775808 ≤ x.size ∧ x.size ≤ 9223372036854775807) (y : Sp.Stp) (hy : Num y) (v : Value) (w : World) (hv : SlR w 6 encStp v l) :
    Calls Try.prog 5 #[v, .agg (encStp y).toArray] w fun e w' => e = .returned (.bool true) ∧ Below w.heap.size w w' := by
  obtain ⟨p, cap, rfl, hc1, hc2, hR⟩ := hv
  obtain ⟨⟨hz1, hz2⟩, ⟨ho1, ho2⟩⟩ := hy
  obtain ⟨yk, o, k, z, ⟨yf, yl⟩⟩ := y
  simp only at hz1 hz2 ho1 ho2
  simp only [encStp]
  have HSZ := Lib.hid hsz
  obtain ⟨wX, hwX⟩ : ∃ wX, wX = w.alloc (.cells #[.int .i64 yk, .int .i64 o, .int .i64 k, .int .i64 z, .int .i64 yf, .int .i64 yl] 35) := ⟨_, rfl⟩
  have HRd : Hid (RdP wX 6 encStp p l) := Lib.hid (by rw [hwX]; exact hR.below (belowA w _) (Nat.le_refl _))
  have HWX : Hid (Below w.heap.size w wX) := Lib.hid (by rw [hwX]; exact belowA w _)
  have HXB : Hid (Blk wX w.heap.size 35 #[.int .i64 yk, .int .i64 o, .int .i64 k, .int .i64 z, .int .i64 yf, .int .i64 yl]) := Lib.hid (by rw [hwX]; exact Blk.new _ _ _)
  have HX1 : Hid (∀ W, Below wX.heap.size wX W → W.cell? ⟨w.heap.size, 1, none⟩ = some (.int .i64 o) ∧ W.cell? ⟨w.heap.size, 2, none⟩ = some (.int .i64 k) ∧ W.cell? ⟨w.heap.size, 3, none⟩ = some (.int .i64 z)) := Lib.hid fun W hW =>
    have hb := HXB.out.below hW HXB.out.lt
    ⟨hb.cell 1, hb.cell 2, hb.cell 3⟩
  have AWK : Hid (Calls Try.prog 7 #[] (w.alloc (.cells #[.int .i64 yk, .int .i64 o, .int .i64 k, .int .i64 z, .int .i64 yf, .int .i64 yl] 35)) fun e w' => e = .returned (.bool true) ∧ Below wX.heap.size wX w') := Lib.hid (by rw [hwX]; exact law12_awake _)
  clear hR hsz hwX
  by_cases hbad : 40 < l.length ∨ o < 1 ∨ z < 1 ∨ k < 0 ∨ 2 < k
  · have hb5 : 40 < l.length ∨ (¬ 40 < l.length ∧ o < 1) ∨ (¬ 40 < l.length ∧ ¬ o < 1 ∧ z < 1) ∨ (¬ 40 < l.length ∧ ¬ o < 1 ∧ ¬ z < 1 ∧ k < 0) ∨ (¬ 40 < l.length ∧ ¬ o < 1 ∧ ¬ z < 1 ∧ ¬ k < 0 ∧ 2 < k) := by omega
    clear hbad
    rcases hb5 with h0 | ⟨h0, h1⟩ | ⟨h0, h1, h2⟩ | ⟨h0, h1, h2, h3⟩ | ⟨h0, h1, h2, h3, h4⟩
    all_goals
      first
        | have e1 : decide (40 < (l.length : Int)) = true := by simp; omega
        | have e1 : decide (40 < (l.length : Int)) = false := by simp; omega
      go_enter Try.func5, Try.ntmps5
      go_wp2_with fail
      refine AWK.out.mono ?_
      rintro e w1 ⟨rfl, hb1⟩
      obtain ⟨k1, k2, k3⟩ := HX1.out _ hb1
      have HB1 := Lib.hid (HWX.out.trans (hb1.mono HWX.out.size))
      clear hb1
      go_wp2_with fail
      go_ret
      exact ⟨rfl, HB1.out⟩
  · obtain ⟨h0, h1, h2, h3, h4⟩ : ¬ 40 < l.length ∧ ¬ o < 1 ∧ ¬ z < 1 ∧ ¬ k < 0 ∧ ¬ 2 < k := by omega
    have e1 : decide (40 < (l.length : Int)) = false := by simp; omega
    clear hbad
    go_enter Try.func5, Try.ntmps5
    go_wp2_with fail
    refine AWK.out.mono ?_
    rintro e w1 ⟨rfl, hb1⟩
    obtain ⟨k1, k2, k3⟩ := HX1.out _ hb1
    have HB1 := Lib.hid hb1
    clear hb1 AWK HXB
    go_wp2_with fail
    refine (spc_New _).mono ?_
    rintro e w2 ⟨g, rfl, hg, hS, hb⟩
    have hA : AW wX w2 g none Sp.spc0 := ⟨hS, HB1.out.trans (hb.mono HB1.out.size), by have := HB1.out.size; omega, fun b e => by cases e⟩
    have H0 := Lib.hid (RW.first hA)
    clear hS hb hg hA k1 k2 k3
    simp only [sA, Sp.spc0] at H0
    go_wp2_with fail
    go_loopw [8] (fun vi wr => ∃ n : Nat, n ≤ l.length ∧ vi = .int .i64 n ∧ Hid (∃ r m vL, m = Sp.runR Sp.spc0 (l.take n) ∧ RW wX wr g r m vL w2.heap.size m vL)) (fun vi _ => l.length - (intOf vi).toNat)
    case atStart => exact ⟨0, Nat.zero_le _, rfl, Lib.hid ⟨_, _, _, rfl, H0.out⟩⟩
    case round =>
      obtain ⟨n, hn, rfl, HX⟩ := hrel
      obtain ⟨r, m, vL, hm, hR⟩ := HX.out
      have hwf := Sp.run_wf (l.take n) Sp.wf0
      rw [← hm] at hwf
      obtain ⟨hwf, hll⟩ := hwf
      have hll' : m.L.length ≤ 40 := by simp [Sp.spc0] at hll; omega
      have HWF := Lib.hid hwf
      have HM := Lib.hid hm
      have HR := Lib.hid hR
      clear HX hwf hm hR hll H0
      obtain ⟨p0, c0, hv0, -, -, -⟩ := id HR.out.d.1
      subst hv0
      by_cases hlt : n < l.length
      · obtain ⟨x, hx⟩ : ∃ x, l[n]? = some x := ⟨_, List.getElem?_eq_getElem hlt⟩
        have hxx : l[n] = x := (List.getElem?_eq_some_iff.1 hx).2
        have HN : Hid (Sp.runR Sp.spc0 (l.take (n + 1)) = Sp.stepR m x) := Lib.hid (by rw [List.take_succ_eq_append_getElem hlt, hxx, Sp.run_snoc, ← HM.out])
        have hxs := HSZ.out x (List.mem_of_getElem? hx)
        have HO := Lib.hid fun (W : World) (h : RW wX W g r m (.slice p0 m.L.length c0) w2.heap.size m (.slice p0 m.L.length c0)) => law_do g r m HWF.out (by omega) x hxs.1 hxs.2 _ W h.A.S h.d
        generalize Sp.stepR m x = q at HN HO
        obtain ⟨bb, off, rfl, hbs, -⟩ := HRd.out.at hlt
        have HCL : Hid (∀ W, Below wX.heap.size wX W → ∀ j u, (encStp x)[j]? = some u → W.cell? ⟨bb, off + n * 6 + j, none⟩ = some u) := Lib.hid fun W hW => by
          have := (HRd.out.below hW (Nat.le_refl _)).in hlt
          rw [hxx] at this
          exact this
        clear hx hxx hxs
        have HSR : Hid (SR wX wr.drew w2.heap.size m (.slice p0 m.L.length c0)) := Lib.hid ⟨HR.out.drew.b, HR.out.drew.A.bel⟩
        go_wp2_with fail
        refine wp_region_held_drew (S := fun W => SR wX W w2.heap.size m (.slice p0 m.L.length c0)) (by kernel_rfl) HSR.out (fun hHeld => ?_)
        refine wpAnyH_take (i := 0) (v := ?_) rfl (by kernel_rfl) (by kernel_rfl) (by kernel_rfl) (fun _ _ _ h => h) (Or.inl ⟨by rfl, ?_⟩) (by assumption) ?_
        rotate_left
        · intro w hSw; go_simp; try with_reducible rfl
        simp only [Act.put, List.setIfInBounds_toArray, List.set_cons_zero, List.set_cons_succ, List.getElem_toArray, List.getElem_cons_zero, List.getElem_cons_succ]
        refine wpAnyH_take (i := 1) rfl (by kernel_rfl) (by kernel_rfl) (by kernel_rfl) (fun _ _ _ h => h) (yieldsIf_load_row (by rfl) _ _ rfl (w2.heap.size) rfl _ (sA m (.slice p0 m.L.length c0)) _ (fun w h => h.b) Try.underlying31 rfl infoS) (by assumption) ?_
        simp only [Act.put, List.setIfInBounds_toArray, List.set_cons_zero, List.set_cons_succ, List.getElem_toArray, List.getElem_cons_zero, List.getElem_cons_succ]
        refine wpAnyH_take (i := 2) (v := ?_) rfl (by kernel_rfl) (by kernel_rfl) (by kernel_rfl) (fun _ _ _ h => h) (Or.inl ⟨by rfl, ?_⟩) (by assumption) ?_
        rotate_left
        · intro w hSw; go_simp; try with_reducible rfl
        simp only [Act.put, List.setIfInBounds_toArray, List.set_cons_zero, List.set_cons_succ, List.getElem_toArray, List.getElem_cons_zero, List.getElem_cons_succ]
        refine wpAnyH_take (i := 3) (v := ?_) rfl (by kernel_rfl) (by kernel_rfl) (by kernel_rfl) (fun _ _ _ h => h) (Or.inl ⟨by rfl, ?_⟩) (by assumption) ?_
        rotate_left
        · intro w hSw; go_simp; try with_reducible rfl
        simp only [Act.put, List.setIfInBounds_toArray, List.set_cons_zero, List.set_cons_succ, List.getElem_toArray, List.getElem_cons_zero, List.getElem_cons_succ]
        refine wpAnyH_take (i := 4) (v := ?_) rfl (by kernel_rfl) (by kernel_rfl) (by kernel_rfl) (fun _ _ _ h => h) (Or.inl ⟨by rfl, ?_⟩) (by assumption) ?_
        rotate_left
        · intro w hSw; go_simp; try with_reducible rfl
        simp only [Act.put, List.setIfInBounds_toArray, List.set_cons_zero, List.set_cons_succ, List.getElem_toArray, List.getElem_cons_zero, List.getElem_cons_succ]
        refine wpAnyH_take (i := 5) (v := ?_) rfl (by kernel_rfl) (by kernel_rfl) (by kernel_rfl) (fun _ _ _ h => h) (Or.inl ⟨by rfl, ?_⟩) (by assumption) ?_
        rotate_left
        · intro w h; have hcl := HCL.out _ h.bel; have k0 := hcl 0 _ rfl; have k1 := hcl 1 _ rfl; have k2 := hcl 2 _ rfl; have k3 := hcl 3 _ rfl; have k4 := hcl 4 _ rfl; have k5 := hcl 5 _ rfl; simp only [Nat.add_zero] at k0; go_simp; try with_reducible rfl
        simp only [Act.put, List.setIfInBounds_toArray, List.set_cons_zero, List.set_cons_succ, List.getElem_toArray, List.getElem_cons_zero, List.getElem_cons_succ]
        refine held_two (i := 6) (j := 10) rfl rfl (by kernel_rfl) (by rfl) (by rfl) (fun K hK => ?_) (fun K hK => ?_)
        · go_simp
          refine (HO.out _ HR.out.drew).mono ?_; rintro e w4 ⟨v4, r4, rfl, hB⟩; have hR4 := RW.step (HR.out.drew) hB; obtain ⟨p4, c4, hv4, -, -, -⟩ := id hB.d.1; subst hv4
          go_wp2_with fail
          refine hK.out _ _ ⟨hR4.b, hR4.A.bel⟩ (fun hHeld => ?_)
          clear hK K
          try simp only [Act.put, List.setIfInBounds_toArray, List.set_cons_zero, List.set_cons_succ, List.getElem_toArray, List.getElem_cons_zero, List.getElem_cons_succ]
          refine wpAnyH_take (i := 7) (v := ?_) rfl (by kernel_rfl) (by kernel_rfl) (by kernel_rfl) (fun _ _ _ h => h) (Or.inl ⟨by rfl, ?_⟩) (by assumption) ?_
          rotate_left
          · intro w hSw; go_simp; try with_reducible rfl
          simp only [Act.put, List.setIfInBounds_toArray, List.set_cons_zero, List.set_cons_succ, List.getElem_toArray, List.getElem_cons_zero, List.getElem_cons_succ]
          refine wpAnyH_take (i := 8) (v := ?_) rfl (by kernel_rfl) (by kernel_rfl) (by kernel_rfl) (fun _ _ _ h => h) (Or.inl ⟨by rfl, ?_⟩) (by assumption) ?_
          rotate_left
          · intro w hSw; go_simp; try with_reducible rfl
          simp only [Act.put, List.setIfInBounds_toArray, List.set_cons_zero, List.set_cons_succ, List.getElem_toArray, List.getElem_cons_zero, List.getElem_cons_succ]
          refine wpAnyH_take (i := 9) (v := ?_) rfl (by kernel_rfl) (by kernel_rfl) (by kernel_rfl) (fun _ _ _ h => h) (Or.inl ⟨by rfl, ?_⟩) (by assumption) ?_
          rotate_left
          · intro w hSw; go_simp; try with_reducible rfl
          simp only [Act.put, List.setIfInBounds_toArray, List.set_cons_zero, List.set_cons_succ, List.getElem_toArray, List.getElem_cons_zero, List.getElem_cons_succ]
          refine held_step (i := 10) rfl (by kernel_rfl) (by rfl) (fun K hK => ?_)
          go_simp
          refine hK.out _ _ (hHeld.next (belowA _ _)) (fun hHeld => ?_)
          clear hK K
          try simp only [Act.put, List.setIfInBounds_toArray, List.set_cons_zero, List.set_cons_succ, List.getElem_toArray, List.getElem_cons_zero, List.getElem_cons_succ]
          have hF := RW.fresh hR4 Sp.spc0 (.slice none 0 0)
          refine held_step (i := 11) rfl (by kernel_rfl) (by rfl) (fun K hK => ?_)
          refine wp_store_row _ _ _ rfl (w4.heap.size) (_) rfl rfl _ (_) (hF.b) infoS (rfl) (oneS _ _ _ _) ?_
          refine hK.out _ _ (SR.row hHeld (by have := hR4.b.lt; omega) hR4.A.bel.size _) (fun hHeld => ?_)
          clear hK K
          try simp only [Act.put, List.setIfInBounds_toArray, List.set_cons_zero, List.set_cons_succ, List.getElem_toArray, List.getElem_cons_zero, List.getElem_cons_succ]
          refine wpAnyH_take (i := 12) (v := ?_) rfl (by kernel_rfl) (by kernel_rfl) (by kernel_rfl) (fun _ _ _ h => h) (Or.inl ⟨by rfl, ?_⟩) (by assumption) ?_
          rotate_left
          · intro w hSw; go_simp; try with_reducible rfl
          simp only [Act.put, List.setIfInBounds_toArray, List.set_cons_zero, List.set_cons_succ, List.getElem_toArray, List.getElem_cons_zero, List.getElem_cons_succ]
          refine wpAnyH_done (by kernel_rfl) ?_ _
          have HT := Lib.hid (RW.two (hR4.next (belowA _ (.cells (sA Sp.spc0 (.slice none 0 0)) 31))) hF (by have := hR4.b.lt; omega) q (.slice p4 q.L.length c4))
          have H6 := Lib.hid (HT.out.1.row q (.slice p4 q.L.length c4))
          go_wp2_with (first
            | (refine wpList_load_row rfl _ _ rfl _ rfl _ _ (0, 0) _ HT.out.2 Try.underlying31 rfl infoS ?_)
            | (refine wpList_store_row rfl _ _ _ rfl w2.heap.size (sA q (.slice p4 q.L.length c4)) rfl rfl _ _ HT.out.1.b infoS rfl (oneS _ _ _ _) ?_))
          exact ⟨⟨n + 1, by omega, by go_num, Lib.hid ⟨_, _, _, HN.out.symm, H6.out⟩⟩, by simp [intOf]; omega⟩
        · go_simp
          refine hK.out _ _ (hHeld.next (belowA _ _)) (fun hHeld => ?_)
          clear hK K
          try simp only [Act.put, List.setIfInBounds_toArray, List.set_cons_zero, List.set_cons_succ, List.getElem_toArray, List.getElem_cons_zero, List.getElem_cons_succ]
          have hF := RW.fresh HR.out.drew Sp.spc0 (.slice none 0 0)
          have hN := HR.out.drew.next (belowA _ (.cells (sA Sp.spc0 (.slice none 0 0)) 31))
          refine held_step (i := 6) rfl (by kernel_rfl) (by rfl) (fun K hK => ?_)
          go_simp
          refine (HO.out _ hN).mono ?_; rintro e w4 ⟨v4, r4, rfl, hB⟩; have hF4 := RW.step hF hB; have hR4 := RW.step (hN) hB; obtain ⟨p4, c4, hv4, -, -, -⟩ := id hB.d.1; subst hv4
          go_wp2_with fail
          refine hK.out _ _ (⟨hR4.b, hR4.A.bel⟩) (fun hHeld => ?_)
          clear hK K
          try simp only [Act.put, List.setIfInBounds_toArray, List.set_cons_zero, List.set_cons_succ, List.getElem_toArray, List.getElem_cons_zero, List.getElem_cons_succ]
          refine wpAnyH_take (i := 7) (v := ?_) rfl (by kernel_rfl) (by kernel_rfl) (by kernel_rfl) (fun _ _ _ h => h) (Or.inl ⟨by rfl, ?_⟩) (by assumption) ?_
          rotate_left
          · intro w hSw; go_simp; try with_reducible rfl
          simp only [Act.put, List.setIfInBounds_toArray, List.set_cons_zero, List.set_cons_succ, List.getElem_toArray, List.getElem_cons_zero, List.getElem_cons_succ]
          refine wpAnyH_take (i := 8) (v := ?_) rfl (by kernel_rfl) (by kernel_rfl) (by kernel_rfl) (fun _ _ _ h => h) (Or.inl ⟨by rfl, ?_⟩) (by assumption) ?_
          rotate_left
          · intro w hSw; go_simp; try with_reducible rfl
          simp only [Act.put, List.setIfInBounds_toArray, List.set_cons_zero, List.set_cons_succ, List.getElem_toArray, List.getElem_cons_zero, List.getElem_cons_succ]
          refine wpAnyH_take (i := 9) (v := ?_) rfl (by kernel_rfl) (by kernel_rfl) (by kernel_rfl) (fun _ _ _ h => h) (Or.inl ⟨by rfl, ?_⟩) (by assumption) ?_
          rotate_left
          · intro w hSw; go_simp; try with_reducible rfl
          simp only [Act.put, List.setIfInBounds_toArray, List.set_cons_zero, List.set_cons_succ, List.getElem_toArray, List.getElem_cons_zero, List.getElem_cons_succ]
          refine held_step (i := 11) rfl (by kernel_rfl) (by rfl) (fun K hK => ?_)
          refine wp_store_row _ _ _ rfl (_) (_) rfl rfl _ (_) (hF4.b) infoS (rfl) (oneS _ _ _ _) ?_
          refine hK.out _ _ (SR.row hHeld (by have := HR.out.b.lt; simp; omega) (by have := HR.out.A.bel.size; simpa using this) _) (fun hHeld => ?_)
          clear hK K
          try simp only [Act.put, List.setIfInBounds_toArray, List.set_cons_zero, List.set_cons_succ, List.getElem_toArray, List.getElem_cons_zero, List.getElem_cons_succ]
          refine wpAnyH_take (i := 12) (v := ?_) rfl (by kernel_rfl) (by kernel_rfl) (by kernel_rfl) (fun _ _ _ h => h) (Or.inl ⟨by rfl, ?_⟩) (by assumption) ?_
          rotate_left
          · intro w hSw; go_simp; try with_reducible rfl
          simp only [Act.put, List.setIfInBounds_toArray, List.set_cons_zero, List.set_cons_succ, List.getElem_toArray, List.getElem_cons_zero, List.getElem_cons_succ]
          refine wpAnyH_done (by kernel_rfl) ?_ _
          have HT := Lib.hid (RW.two hR4 hF4 (by have := HR.out.b.lt; simp; omega) q (.slice p4 q.L.length c4))
          have H6 := Lib.hid (HT.out.1.row q (.slice p4 q.L.length c4))
          go_wp2_with (first
            | (refine wpList_load_row rfl _ _ rfl _ rfl _ _ (0, 0) _ HT.out.2 Try.underlying31 rfl infoS ?_)
            | (refine wpList_store_row rfl _ _ _ rfl w2.heap.size (sA q (.slice p4 q.L.length c4)) rfl rfl _ _ HT.out.1.b infoS rfl (oneS _ _ _ _) ?_))
          exact ⟨⟨n + 1, by omega, by go_num, Lib.hid ⟨_, _, _, HN.out.symm, H6.out⟩⟩, by simp [intOf]; omega⟩
      · have HXX := Lib.hid (RX.of HR.out)
        have AR := Lib.hid fun (W : World) (h : SpcR W g r m) => spc_Area' g k m HWF.out r W h
        have LS := Lib.hid fun (W : World) (h : SpcR W g r m) => spc_Left' g k m HWF.out r W h
        have hlen := Sp.left_len HWF.out k
        have LO := Lib.hid fun (v : Value) (W : World) (h : SlR W 2 encSp v (Sp.leftR m k)) => ref_Longest (Sp.leftR m k) v W (by omega) h
        have DR := Lib.hid fun (W : World) (h : SpcR W g r m) => spc_Draw g r m HWF.out (by omega) o k z hz1 hz2 W h
        have SM := Lib.hid fun (r : Option Nat) (W : World) (h : SpcR W g r m) (h2 : SlR W 4 encBk (.slice p0 m.L.length c0) m.L) => law_same g r m HWF.out (by omega) (.slice p0 m.L.length c0) W h h2
        obtain ⟨a1, a2, is, har⟩ : ∃ a1 a2 is, Sp.areaR m k = ((a1, a2), is) := ⟨_, _, _, rfl⟩
        have HIS : Hid (0 < k → (m.at k).1 = 0 → is = false) := Lib.hid fun h5 h6 => by
          have : Sp.areaR m k = ((0, 0), false) := by unfold Sp.areaR; rw [if_pos (by omega)]
          rw [this] at har; cases har; rfl
        rw [har] at AR
        have hdr := Sp.draw_some HWF.out (o := o) (k := k) (z := z) (by omega) (by omega) (by omega) (by omega)
        have hlh := fun s (h : Sp.has (Sp.leftR m k) s = true) => Sp.longest_has h
        have HBK := Lib.hid fun s (h : Sp.has (Sp.leftR m k) s = true) => Sp.put_back HWF.out (by omega) (by omega) h o
        have HFN := Lib.hid fun s (h : Sp.has (Sp.leftR m k) s = true) => Sp.free_none HWF.out (by omega) (by omega) h o
        have HOW := Lib.hid fun s (h : Sp.has (Sp.leftR m k) s = true) => Sp.owns_iff.1 (Sp.has_owns HWF.out (by omega) (by omega) h)
        have HDW := Lib.hid (Sp.draw_wf HWF.out o k z)
        obtain ⟨k1, k2, k3⟩ := HX1.out _ HXX.out.A.bel
        clear har HR HM HSZ HRd
        go_wp2_with fail
        clear hlt
        refine (AR.out _ HXX.out.A.S).mono ?_
        rintro e w3 ⟨rfl, hb3⟩
        have H3 := Lib.hid ((HXX.out.next hb3).next (belowA _ (.cells #[.int .i64 a1, .int .i64 a2] 27)))
        clear k1 k2 k3 hb3
        obtain ⟨k1, k2, k3⟩ := HX1.out _ H3.out.A.bel
        go_wp2_with fail
        refine (LS.out _ H3.out.A.S).mono ?_
        rintro e w4 ⟨v4, rfl, h4', hb4⟩
        have H4 := Lib.hid (H3.out.next hb4)
        clear k1 k2 k3 hb4
        go_wp2_with fail
        refine (LO.out _ _ h4').mono ?_
        rintro e w5 ⟨rfl, hb5⟩
        have H5 := Lib.hid (H4.out.next hb5)
        clear hb5 h4'
        obtain ⟨k1, k2, k3⟩ := HX1.out _ H5.out.A.bel
        generalize hmost : Sp.longest (Sp.leftR m k) = most at hlh hdr
        rcases hdr with ⟨s, hd, hh, hsz', -⟩ | ⟨hd, hk0, hz0, -⟩ | ⟨hd, hlo, -⟩
        · obtain ⟨s1, s2⟩ := s
          rw [hd] at DR HDW
          have hmo := hlh _ hh
          rw [hsz'] at hmo
          obtain ⟨q1, q2, q3⟩ := HBK.out _ hh
          have q4 := HFN.out _ hh
          obtain ⟨o5, o6, o7⟩ := HOW.out _ hh
          obtain ⟨hwq, hlq⟩ := HDW.out
          generalize Sp.putR m ⟨(s1, s2), o, k⟩ = qq at DR q1 q2 q3 hwq hlq
          simp only [Sp.size] at hsz'
          simp only at o5 o6 o7
          obtain ⟨o', ho'⟩ : ∃ o', IntKind.i64.wrap (o + 1) = o' := ⟨_, rfl⟩
          have hoo : o' ≠ o := by
            rw [← ho']
            by_cases hmx : o = 9223372036854775807
            · subst hmx; decide
            · rw [IntWalk.i64_in _ (by omega)]; omega
          have q2' := q2 o' hoo
          have hlq' : qq.L.length ≤ 1000 := by simp at hlq; omega
          have OWN := Lib.hid fun (r : Option Nat) (W : World) (h : SpcR W g r qq) => show Calls Try.prog _ _ _ (RetII (o, k) W) from q1 ▸ spc_Owner g s2 qq (by omega) r W h
          have F1 := Lib.hid fun (r : Option Nat) (W : World) (h : SpcR W g r qq) => show Calls Try.prog _ _ _ (RetE g r (qq, 31) W) from q2' ▸ spc_Free g r qq hwq hlq' o' s1 s2 W h
          have F2 := Lib.hid fun (r : Option Nat) (W : World) (h : SpcR W g r qq) => show Calls Try.prog _ _ _ (RetE g r (m, 0) W) from q3 ▸ spc_Free g r qq hwq hlq' o s1 s2 W h
          have F3 := Lib.hid fun (r : Option Nat) (W : World) (h : SpcR W g r m) => show Calls Try.prog _ _ _ (RetE g r (m, 31) W) from q4 ▸ spc_Free g r m HWF.out (by omega) o s1 s2 W h
          clear hd hh hlh q1 q2 q3 q4 q2' hoo hwq hlq HDW HBK HFN HOW HIS
          go_wp2_with fail
          refine (DR.out _ H5.out.A.S).mono ?_
          rintro e w6 ⟨rfl, hL⟩
          obtain ⟨r6, h6, -⟩ := H5.out.step hL
          have H6 := Lib.hid (RY.fresh h6 s1 s2)
          have b0 : (w6.alloc (.cells #[.int .i64 s1, .int .i64 s2] 27)).cell? ⟨w6.heap.size, 1, none⟩ = some (.int .i64 s2) := H6.out.bt.cell 1
          clear hL h6 k1 k2 k3
          go_wp2_with fail
          refine (OWN.out _ _ H6.out.X.A.S).mono ?_
          rintro e w7 ⟨rfl, hb7⟩
          have H7 := Lib.hid (H6.out.next hb7)
          clear hb7 b0
          obtain ⟨k1, k2, k3⟩ := HX1.out _ H7.out.X.A.bel
          have b0 : w7.cell? ⟨w6.heap.size, 0, none⟩ = some (.int .i64 s1) := H7.out.bt.cell 0
          have b1 : w7.cell? ⟨w6.heap.size, 1, none⟩ = some (.int .i64 s2) := H7.out.bt.cell 1
          go_wp2_with fail
          refine (F1.out _ _ H7.out.X.A.S).mono ?_
          rintro e w8 ⟨rfl, hL⟩
          obtain ⟨r8, h8⟩ := H7.out.step hL
          have H8 := Lib.hid h8
          clear hL h8 k1 k2 k3 b0 b1
          obtain ⟨k1, k2, k3⟩ := HX1.out _ H8.out.X.A.bel
          have b0 : w8.cell? ⟨w6.heap.size, 0, none⟩ = some (.int .i64 s1) := H8.out.bt.cell 0
          have b1 : w8.cell? ⟨w6.heap.size, 1, none⟩ = some (.int .i64 s2) := H8.out.bt.cell 1
          go_wp2_with fail
          refine (F2.out _ _ H8.out.X.A.S).mono ?_
          rintro e w9 ⟨rfl, hL⟩
          obtain ⟨r9, h9⟩ := H8.out.step hL
          have H9 := Lib.hid h9
          clear hL h9 k1 k2 k3 b0 b1
          obtain ⟨k1, k2, k3⟩ := HX1.out _ H9.out.X.A.bel
          have b0 : w9.cell? ⟨w6.heap.size, 0, none⟩ = some (.int .i64 s1) := H9.out.bt.cell 0
          have b1 : w9.cell? ⟨w6.heap.size, 1, none⟩ = some (.int .i64 s2) := H9.out.bt.cell 1
          go_wp2_with fail
          refine (F3.out _ _ H9.out.X.A.S).mono ?_
          rintro e w10 ⟨rfl, hL⟩
          obtain ⟨r10, h10⟩ := H9.out.step hL
          have H10 := Lib.hid h10
          clear hL h10 k1 k2 k3 b0 b1 ho'
          obtain ⟨k1, k2, k3⟩ := HX1.out _ H10.out.X.A.bel
          have b0 : w10.cell? ⟨w6.heap.size, 0, none⟩ = some (.int .i64 s1) := H10.out.bt.cell 0
          have b1 : w10.cell? ⟨w6.heap.size, 1, none⟩ = some (.int .i64 s2) := H10.out.bt.cell 1
          have hbeq : ((s2 - s1 + 1 : Int) == z) = true := by simpa using hsz'
          clear hsz'
          go_wp2_with (refine wpList_load_wantS rfl _ _ rfl _ rfl _ _ (0, 0) _ H10.out.X.b Try.underlying31 rfl infoS ?_)
          refine (SM.out _ _ H10.out.X.A.S H10.out.X.d.1).mono ?_
          rintro e w11 ⟨rfl, hb11⟩
          have H11 := Lib.hid (H10.out.next hb11)
          clear hb11
          go_wp2_with fail
          go_ret
          exact ⟨rfl, HWX.out.trans (H11.out.X.A.bel.mono HWX.out.size)⟩
        · rw [hd] at DR
          have his := HIS.out hk0 hz0
          subst his
          clear hd hlh hz0 HDW HBK HFN HOW HIS
          go_wp2_with fail
          refine (DR.out _ H5.out.A.S).mono ?_
          rintro e w6 ⟨rfl, hL⟩
          obtain ⟨r6, h6, -⟩ := H5.out.step hL
          have H6 := Lib.hid (RY.fresh h6 0 0)
          clear hL h6 k1 k2 k3
          go_wp2_with (refine wpList_load_row rfl _ _ rfl _ rfl _ _ (0, 0) _ H6.out.X.b Try.underlying31 rfl infoS ?_)
          refine (SM.out _ _ H6.out.X.A.S H6.out.X.d.1).mono ?_
          rintro e w7 ⟨rfl, hb7⟩
          have H7 := Lib.hid (H6.out.next hb7)
          clear hb7
          obtain ⟨k1, k2, k3⟩ := HX1.out _ H7.out.X.A.bel
          go_wp2_with fail
          go_ret
          exact ⟨rfl, HWX.out.trans (H7.out.X.A.bel.mono HWX.out.size)⟩
        · rw [hd] at DR
          have hdl : decide (most < z) = true := by simpa using hlo
          clear hd hlh hlo HDW HBK HFN HOW HIS
          go_wp2_with fail
          refine (DR.out _ H5.out.A.S).mono ?_
          rintro e w6 ⟨rfl, hL⟩
          obtain ⟨r6, h6, -⟩ := H5.out.step hL
          have H6 := Lib.hid (RY.fresh h6 0 0)
          clear hL h6 k1 k2 k3
          go_wp2_with (refine wpList_load_row rfl _ _ rfl _ rfl _ _ (0, 0) _ H6.out.X.b Try.underlying31 rfl infoS ?_)
          refine (SM.out _ _ H6.out.X.A.S H6.out.X.d.1).mono ?_
          rintro e w7 ⟨rfl, hb7⟩
          have H7 := Lib.hid (H6.out.next hb7)
          clear hb7
          obtain ⟨k1, k2, k3⟩ := HX1.out _ H7.out.X.A.bel
          go_wp2_with fail
          go_ret
          exact ⟨rfl, HWX.out.trans (H7.out.X.A.bel.mono HWX.out.size)⟩
end Go.Proofs.Ytbeombmblifohaa
