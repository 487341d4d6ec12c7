import Derived.Test.YtbeombmblifohaaSpcRef7
import Derived.Deep.WholeRow
/- Layer 12's laws: same. -/
namespace Go.Proofs.Ytbeombmblifohaa
set_option linter.unusedVariables false
set_option linter.unusedSimpArgs false
open Go.RowKit Go.Shelf Go.Proofs

/-- same, between two calls: the space, and the reference's box -/
structure VU (w W : World) (g : Nat) (r : Option Nat) (m m' : Sp.Spc) (vL : Value) : Prop where
  S : SpcR W g r m
  U : QU w W w.heap.size m' vL
theorem VU.next {w W : World} {g : Nat} {r : Option Nat} {m m' : Sp.Spc} {vL : Value} (h : VU w W g r m m' vL) {W' : World} (hb : Below W.heap.size W W') : VU w W' g r m m' vL := ⟨h.S.below hb, h.U.next hb⟩
theorem VU.drew {w W : World} {g : Nat} {r : Option Nat} {m m' : Sp.Spc} {vL : Value} (h : VU w W g r m m' vL) : VU w W.drew g r m m' vL := h.next (Below.refl _ _).drew
/-- and the two areas that it compares -/
structure VX (w W : World) (g : Nat) (r : Option Nat) (m : Sp.Spc) (vL : Value) (x y : Nat) (a b : Int) : Prop where
  V : VU w W g r m m vL
  bx : Blk W x 27 #[.int .i64 a, .int .i64 b]
  bY : Blk W y 27 #[.int .i64 a, .int .i64 b]
theorem VX.next {w W : World} {g : Nat} {r : Option Nat} {m : Sp.Spc} {vL : Value} {x y : Nat} {a b : Int} (h : VX w W g r m vL x y a b) {W' : World} (hb : Below W.heap.size W W') : VX w W' g r m vL x y a b := ⟨h.V.next hb, h.bx.below hb h.bx.lt, h.bY.below hb h.bY.lt⟩
theorem VX.drew {w W : World} {g : Nat} {r : Option Nat} {m : Sp.Spc} {vL : Value} {x y : Nat} {a b : Int} (h : VX w W g r m vL x y a b) : VX w W.drew g r m vL x y a b := h.next (Below.refl _ _).drew
theorem spc_Blocks' (g : Nat) (m : Sp.Spc) (hl : m.L.length ≤ 1000000) (r : Option Nat) (w : World) (h : SpcR w g r m) :
    Calls Try.prog 15 #[.pointer (some ⟨g, 0, none⟩)] w (RetRow w.heap.size 47 4 m.L.length (flat encBk m.L) w) := by
  obtain ⟨v0, v1, v2, vb, h⟩ := h
  exact spc_Blocks g v0 v1 v2 vb m hl r w h
theorem spc_Left' (g : Nat) (k : Int) (m : Sp.Spc) (hm : Sp.WF m) (r : Option Nat) (w : World) (h : SpcR w g r m) :
    Calls Try.prog 18 #[.pointer (some ⟨g, 0, none⟩), .int .i64 k] w (RetSl (Sp.leftR m k) w) := by
  obtain ⟨v0, v1, v2, vb, h⟩ := h
  exact spc_Left g k v0 v1 v2 vb m hm r w h
theorem spc_Index' (g : Nat) (n : Int) (m : Sp.Spc) (hm : Sp.WF m) (r : Option Nat) (w : World) (h : SpcR w g r m) :
    Calls Try.prog 12 #[.pointer (some ⟨g, 0, none⟩), .int .i64 n] w (RetIB (Sp.indexR m n) w) := by
  obtain ⟨v0, v1, v2, vb, h⟩ := h
  exact spc_Index g n v0 v1 v2 vb m hm w h.1
theorem same_self (a : List Sp.S) (va vb : Value) (w : World) (ha : a.length ≤ 1073741824) (hva : SlR w 2 encSp va a) (hvb : SlR w 2 encSp vb a) :
    Calls Try.prog 34 #[va, vb] w fun e w' => e = .returned (.bool true) ∧ Below w.heap.size w w' :=
  (ref_Same a a va vb w ha hva hvb).mono fun e w' h => ⟨h.1.trans (by simp), h.2⟩
set_option maxRecDepth 100000 in
set_option maxHeartbeats 8000000 in
theorem law_same (g : Nat) (r : Option Nat) (m : Sp.Spc) (hm : Sp.WF m) (hl : m.L.length ≤ 1000) (vL : Value) (w : World) (h : SpcR w g r m) (hv : SlR w 4 encBk vL m.L) :
    Calls Try.prog 14 #[.pointer (some ⟨g, 0, none⟩), .agg (sA m vL)] w fun e w' => e = .returned (.bool true) ∧ Below w.heap.size w w' := by
  have H0 : Hid (VU w (w.alloc (.cells (sA m vL) 31)) g r m m vL) := Lib.hid ⟨h.below (belowA w _), QU.first w m vL hv⟩
  have BL := Lib.hid fun (W : World) (h : VU w W g r m m vL) => spc_Blocks' g m (by omega) r W h.S
  have AR := Lib.hid fun (k : Int) (W : World) (h : VU w W g r m m vL) => spc_Area' g k m hm r W h.S
  have LS := Lib.hid fun (k : Int) (W : World) (h : VU w W g r m m vL) => spc_Left' g k m hm r W h.S
  have LD := Lib.hid fun (k : Int) (W : World) (h : VU w W g r m m vL) => r12_Left m hm (by omega) k vL W h.U.rd
  have AD := Lib.hid fun (k : Int) (W : World) (h : VU w W g r m m vL) => r12_Area m vL (by obtain ⟨p, c, hv, _⟩ := h.U.rd; exact ⟨p, _, c, hv⟩) k W
  have HLL := Lib.hid fun k => Sp.left_len hm k
  obtain ⟨p, cap, rfl, hc1, hc2, hR⟩ := hv
  clear hR
  obtain ⟨⟨x1, y1⟩, ⟨x2, y2⟩, L⟩ := m
  simp only at hl hc1
  simp only [sA] at H0 BL AR LS LD AD ⊢
  go_enter Try.func14, Try.ntmps14
  go_wp2_with fail
  refine (BL.out _ H0.out).mono ?_
  rintro e w1 ⟨v1, rfl, ho1, hb1⟩
  have H1 := Lib.hid (H0.out.next hb1)
  obtain ⟨p1, cp1, rfl, hd1, hd2, hR1⟩ := SlR.of_owns encBk_len ho1
  have HR1 := Lib.hid hR1
  have hneq : ((L.length : Int) != (L.length : Int)) = false := by simp
  clear hb1 ho1 hR1 H0 BL
  have c6 : w1.cell? ⟨w.heap.size, 6, none⟩ = some (.slice p L.length cap) := H1.out.U.cs.2.2.2.2.2.2
  go_wp2_with fail
  go_loopw [6] (fun vi wr => ∃ n : Nat, n ≤ L.length ∧ vi = .int .i64 n ∧ Hid (VU w wr g r ⟨(x1, y1), (x2, y2), L⟩ ⟨(x1, y1), (x2, y2), L⟩ (.slice p L.length cap)) ∧ Hid (RdP wr 4 encBk p1 L)) (fun vi _ => L.length - (intOf vi).toNat)
  case atStart => exact ⟨0, Nat.zero_le _, rfl, H1, HR1⟩
  case round =>
    obtain ⟨n, hn, rfl, HV, HR⟩ := hrel
    have c6 : wr.cell? ⟨w.heap.size, 6, none⟩ = some (.slice p L.length cap) := HV.out.U.cs.2.2.2.2.2.2
    by_cases hlt : n < L.length
    · obtain ⟨c, hc⟩ : ∃ c, L[n]? = some c := ⟨_, List.getElem?_eq_getElem hlt⟩
      have hcc : L[n] = c := (List.getElem?_eq_some_iff.1 hc).2
      obtain ⟨bb, off, hpe, hbs, hcl⟩ := HR.out.at hlt
      rw [hcc] at hcl
      have c0 := hcl 0 _ rfl
      have c1 := hcl 1 _ rfl
      have c2 := hcl 2 _ rfl
      have c3 := hcl 3 _ rfl
      obtain ⟨q1, cq1, hq1, _, _, hRL⟩ := HV.out.U.rd
      cases hq1
      obtain ⟨bb', off', hpe', hbs', hcl'⟩ := hRL.at hlt
      rw [hcc] at hcl'
      have d0 := hcl' 0 _ rfl
      have d1 := hcl' 1 _ rfl
      have d2 := hcl' 2 _ rfl
      have d3 := hcl' 3 _ rfl
      simp only [Nat.add_zero] at c0 d0
      have hneqs := run_neq_sp c.sp c.sp
      simp only [decide_true, Bool.not_true] at hneqs
      subst hpe
      subst hpe'
      clear hcl hcl' hc hcc hRL
      go_wp2_with fail
      go_quiet (fail)
      go_wp2_with fail
      exact ⟨⟨n + 1, by omega, by go_num, Lib.hid (HV.out.next (below_drewN (Below.refl _ _) _)), HR⟩, by simp [intOf]; omega⟩
    · have H2 := HV
      go_wp2_with fail
      clear HR hlt hn
      go_loopw [7] (fun vk wr => ∃ k : Int, -1 ≤ k ∧ k ≤ 4 ∧ vk = .int .i64 k ∧ Hid (VU w wr g r ⟨(x1, y1), (x2, y2), L⟩ ⟨(x1, y1), (x2, y2), L⟩ (.slice p L.length cap))) (fun vk _ => (4 - intOf vk).toNat)
      case atStart => exact ⟨-1, by omega, by omega, rfl, H2⟩
      case round =>
        obtain ⟨k, hk1, hk2, rfl, HV⟩ := hrel
        clear H2
        by_cases hlt : k < 4
        · obtain ⟨a, b, is, har⟩ : ∃ a b is, Sp.areaR ⟨(x1, y1), (x2, y2), L⟩ k = ((a, b), is) := ⟨_, _, _, rfl⟩
          have AR' := Lib.hid (AR.out k)
          have AD' := Lib.hid (AD.out k)
          rw [har] at AR' AD'
          clear har
          go_wp2_with fail
          refine (AR'.out _ HV.out).mono ?_
          rintro e w2 ⟨rfl, hb2⟩
          have H2 := Lib.hid (HV.out.next hb2)
          have hzz := H2.out.U.bx.lt
          have n0 := fun o => (H2.out.U.next (belowA _ o)).cs.1
          have n1 := fun o => (H2.out.U.next (belowA _ o)).cs.2.1
          have n2 := fun o => (H2.out.U.next (belowA _ o)).cs.2.2.1
          have n3 := fun o => (H2.out.U.next (belowA _ o)).cs.2.2.2.1
          have n4 := fun o => (H2.out.U.next (belowA _ o)).cs.2.2.2.2.1
          have n5 := fun o => (H2.out.U.next (belowA _ o)).cs.2.2.2.2.2.1
          have n6 := fun o => (H2.out.U.next (belowA _ o)).cs.2.2.2.2.2.2
          clear hb2
          go_wp2_with fail
          refine (AD'.out _ (H2.out.next (belowA _ _))).mono ?_
          rintro e w4 ⟨rfl, hb4⟩
          have hx4 : Blk w4 w2.heap.size 27 #[.int .i64 a, .int .i64 b] := (Blk.new w2 _ _).below hb4 (by simp)
          have H4 : Hid (VX w (w4.alloc (.cells #[.int .i64 a, .int .i64 b] 27)) g r ⟨(x1, y1), (x2, y2), L⟩ (.slice p L.length cap) w2.heap.size w4.heap.size a b) := Lib.hid ⟨((H2.out.next (belowA _ _)).next hb4).next (belowA _ _), hx4.alloc _, Blk.new _ _ _⟩
          have hneqs := run_neq_sp (a, b) (a, b)
          simp only [decide_true, Bool.not_true] at hneqs
          clear hzz n0 n1 n2 n3 n4 n5 n6 hb4 hx4
          go_wp2_with fail
          refine wp_region_held_drew (S := fun W => VX w W g r ⟨(x1, y1), (x2, y2), L⟩ (.slice p L.length cap) w2.heap.size w4.heap.size a b) (by kernel_rfl) H4.out.drew (fun hHeld => ?_)
          refine wpAnyH_take (i := 0) rfl (by kernel_rfl) (by kernel_rfl) (by kernel_rfl) (fun _ _ _ h => h) (yieldsIf_load_row (by rfl) _ _ rfl (w2.heap.size) rfl _ (#[.int .i64 a, .int .i64 b]) _ (fun w h => h.bx) Try.underlying27 rfl infoSpn) (by assumption) ?_
          simp only [Act.put, List.setIfInBounds_toArray, List.set_cons_zero, List.set_cons_succ, List.getElem_toArray, List.getElem_cons_zero, List.getElem_cons_succ]
          refine wpAnyH_take (i := 1) rfl (by kernel_rfl) (by kernel_rfl) (by kernel_rfl) (fun _ _ _ h => h) (yieldsIf_load_row (by rfl) _ _ rfl (w4.heap.size) rfl _ (#[.int .i64 a, .int .i64 b]) _ (fun w h => h.bY) Try.underlying27 rfl infoSpn) (by assumption) ?_
          simp only [Act.put, List.setIfInBounds_toArray, List.set_cons_zero, List.set_cons_succ, List.getElem_toArray, List.getElem_cons_zero, List.getElem_cons_succ]
          refine wpAnyH_take (i := 2) (v := ?_) rfl (by kernel_rfl) (by kernel_rfl) (by kernel_rfl) (fun _ _ _ h => h) (Or.inl ⟨by rfl, ?_⟩) (by assumption) ?_
          rotate_left
          · intro w hSw; go_simp; try with_reducible rfl
          simp only [Act.put, List.setIfInBounds_toArray, List.set_cons_zero, List.set_cons_succ, List.getElem_toArray, List.getElem_cons_zero, List.getElem_cons_succ]
          refine wpAnyH_take (i := 3) (v := ?_) rfl (by kernel_rfl) (by kernel_rfl) (by kernel_rfl) (fun _ _ _ h => h) (Or.inl ⟨by rfl, ?_⟩) (by assumption) ?_
          rotate_left
          · intro w hSw; go_simp; try with_reducible rfl
          simp only [Act.put, List.setIfInBounds_toArray, List.set_cons_zero, List.set_cons_succ, List.getElem_toArray, List.getElem_cons_zero, List.getElem_cons_succ]
          refine wpAnyH_take (i := 4) (v := ?_) rfl (by kernel_rfl) (by kernel_rfl) (by kernel_rfl) (fun _ _ _ h => h) (Or.inl ⟨by rfl, ?_⟩) (by assumption) ?_
          rotate_left
          · intro w hSw; go_simp; try with_reducible rfl
          simp only [Act.put, List.setIfInBounds_toArray, List.set_cons_zero, List.set_cons_succ, List.getElem_toArray, List.getElem_cons_zero, List.getElem_cons_succ]
          refine wpAnyH_take (i := 5) (v := ?_) rfl (by kernel_rfl) (by kernel_rfl) (by kernel_rfl) (fun _ _ _ h => h) (Or.inl ⟨by rfl, ?_⟩) (by assumption) ?_
          rotate_left
          · intro w hSw; go_simp; try with_reducible rfl
          simp only [Act.put, List.setIfInBounds_toArray, List.set_cons_zero, List.set_cons_succ, List.getElem_toArray, List.getElem_cons_zero, List.getElem_cons_succ]
          refine wpAnyH_take (i := 6) (v := ?_) rfl (by kernel_rfl) (by kernel_rfl) (by kernel_rfl) (fun _ _ _ h => h) (Or.inl ⟨by rfl, ?_⟩) (by assumption) ?_
          rotate_left
          · intro w hSw; go_simp; try with_reducible rfl
          simp only [Act.put, List.setIfInBounds_toArray, List.set_cons_zero, List.set_cons_succ, List.getElem_toArray, List.getElem_cons_zero, List.getElem_cons_succ]
          refine wpAnyH_take (i := 7) (v := ?_) rfl (by kernel_rfl) (by kernel_rfl) (by kernel_rfl) (fun _ _ _ h => h) (Or.inl ⟨by rfl, ?_⟩) (by assumption) ?_
          rotate_left
          · intro w hSw; go_simp; try with_reducible rfl
          simp only [Act.put, List.setIfInBounds_toArray, List.set_cons_zero, List.set_cons_succ, List.getElem_toArray, List.getElem_cons_zero, List.getElem_cons_succ]
          refine wpAnyH_take (i := 8) (v := ?_) rfl (by kernel_rfl) (by kernel_rfl) (by kernel_rfl) (fun _ _ _ h => h) (Or.inl ⟨by rfl, ?_⟩) (by assumption) ?_
          rotate_left
          · intro w hSw; go_simp; try with_reducible rfl
          simp only [Act.put, List.setIfInBounds_toArray, List.set_cons_zero, List.set_cons_succ, List.getElem_toArray, List.getElem_cons_zero, List.getElem_cons_succ]
          refine wpAnyH_take (i := 9) (v := ?_) rfl (by kernel_rfl) (by kernel_rfl) (by kernel_rfl) (fun _ _ _ h => h) (Or.inl ⟨by rfl, ?_⟩) (by assumption) ?_
          rotate_left
          · intro w hSw; go_simp; try with_reducible rfl
          simp only [Act.put, List.setIfInBounds_toArray, List.set_cons_zero, List.set_cons_succ, List.getElem_toArray, List.getElem_cons_zero, List.getElem_cons_succ]
          refine wpAnyH_take (i := 10) (v := ?_) rfl (by kernel_rfl) (by kernel_rfl) (by kernel_rfl) (fun _ _ _ h => h) (Or.inl ⟨by rfl, ?_⟩) (by assumption) ?_
          rotate_left
          · intro w hSw; go_simp; try with_reducible rfl
          simp only [Act.put, List.setIfInBounds_toArray, List.set_cons_zero, List.set_cons_succ, List.getElem_toArray, List.getElem_cons_zero, List.getElem_cons_succ]
          refine wpAnyH_take (i := 12) rfl (by kernel_rfl) (by kernel_rfl) (by kernel_rfl) (fun _ _ _ h => h) (yieldsIf_load_row (by rfl) _ _ rfl (w.heap.size) rfl _ (sA ⟨(x1, y1), (x2, y2), L⟩ (.slice p L.length cap)) _ (fun w h => h.V.U.bx) Try.underlying31 rfl infoS) (by assumption) ?_
          simp only [Act.put, List.setIfInBounds_toArray, List.set_cons_zero, List.set_cons_succ, List.getElem_toArray, List.getElem_cons_zero, List.getElem_cons_succ]
          refine wpAnyH_take (i := 13) (v := ?_) rfl (by kernel_rfl) (by kernel_rfl) (by kernel_rfl) (fun _ _ _ h => h) (Or.inl ⟨by rfl, ?_⟩) (by assumption) ?_
          rotate_left
          · intro w hSw; go_simp; try with_reducible rfl
          simp only [Act.put, List.setIfInBounds_toArray, List.set_cons_zero, List.set_cons_succ, List.getElem_toArray, List.getElem_cons_zero, List.getElem_cons_succ]
          refine held_step (i := 11) rfl (by kernel_rfl) (by rfl) (fun K hK => ?_)
          go_simp
          refine (LS.out k _ hHeld.V).mono ?_; rintro e w5 ⟨v5, rfl, h5, hb5⟩; have HV5 := hHeld.next hb5
          go_wp2_with fail
          refine hK.out _ _ (HV5) (fun hHeld => ?_)
          clear hK K
          try simp only [Act.put, List.setIfInBounds_toArray, List.set_cons_zero, List.set_cons_succ, List.getElem_toArray, List.getElem_cons_zero, List.getElem_cons_succ]
          refine held_step (i := 14) rfl (by kernel_rfl) (by rfl) (fun K hK => ?_)
          go_simp
          refine (LD.out k _ hHeld.V).mono ?_; rintro e w6 ⟨v6, rfl, h6, hb6⟩; have HV6 := hHeld.next hb6; have h56 := h5.below hb6 (Nat.le_refl _)
          go_wp2_with fail
          refine hK.out _ _ (HV6) (fun hHeld => ?_)
          clear hK K
          try simp only [Act.put, List.setIfInBounds_toArray, List.set_cons_zero, List.set_cons_succ, List.getElem_toArray, List.getElem_cons_zero, List.getElem_cons_succ]
          refine held_step (i := 15) rfl (by kernel_rfl) (by rfl) (fun K hK => ?_)
          go_simp
          refine (same_self (Sp.leftR ⟨(x1, y1), (x2, y2), L⟩ k) v5 v6 _ (by have := HLL.out k; omega) h56 h6).mono ?_; rintro e w7 ⟨rfl, hb7⟩; have HV7 := hHeld.next hb7
          go_wp2_with fail
          refine hK.out _ _ (HV7) (fun hHeld => ?_)
          clear hK K
          try simp only [Act.put, List.setIfInBounds_toArray, List.set_cons_zero, List.set_cons_succ, List.getElem_toArray, List.getElem_cons_zero, List.getElem_cons_succ]
          refine wpAnyH_take (i := 16) (v := ?_) rfl (by kernel_rfl) (by kernel_rfl) (by kernel_rfl) (fun _ _ _ h => h) (Or.inl ⟨by rfl, ?_⟩) (by assumption) ?_
          rotate_left
          · intro w hSw; go_simp; try with_reducible rfl
          simp only [Act.put, List.setIfInBounds_toArray, List.set_cons_zero, List.set_cons_succ, List.getElem_toArray, List.getElem_cons_zero, List.getElem_cons_succ]
          refine wpAnyH_take (i := 17) (v := ?_) rfl (by kernel_rfl) (by kernel_rfl) (by kernel_rfl) (fun _ _ _ h => h) (Or.inl ⟨by rfl, ?_⟩) (by assumption) ?_
          rotate_left
          · intro w hSw; go_simp; try with_reducible rfl
          simp only [Act.put, List.setIfInBounds_toArray, List.set_cons_zero, List.set_cons_succ, List.getElem_toArray, List.getElem_cons_zero, List.getElem_cons_succ]
          refine wpAnyH_done (by kernel_rfl) ?_ _
          go_wp2_with fail
          exact ⟨⟨k + 1, by omega, by omega, rfl, Lib.hid HV7.V⟩, by simp [intOf]; omega⟩
        · go_wp2_with fail
          go_ret
          exact ⟨rfl, HV.out.U.bel⟩
end Go.Proofs.Ytbeombmblifohaa

/- Layer 12's laws: a step of both, in memory. -/
namespace Go.Proofs.Ytbeombmblifohaa
set_option linter.unusedVariables false
set_option linter.unusedSimpArgs false
open Go.RowKit Go.Shelf Go.Proofs

/-- the document's blocks lie neither in the space nor in its row -/
def SlF4 (W : World) (g : Nat) (r : Option Nat) (v : Value) (L : List Sp.Bk) : Prop := SlR W 4 encBk v L ∧ ∀ b, v.ownBlock = some b → b ≠ g ∧ some b ≠ r
/-- both, behind a step -/
structure Bth (W w' : World) (g : Nat) (r r' : Option Nat) (m' : Sp.Spc) (v0 v' : Value) : Prop where
  S : SpcR w' g r' m'
  nr : NewRow W r r'
  fr : Frm g r W w'
  old : Old g W w'
  d : SlF4 w' g r' v' m'.L
  nv : NewV W v0 v'
theorem Frm.rowAt {g : Nat} {r : Option Nat} {W W' : World} (h : Frm g r W W') {z : Nat} (hz : W.heap.size ≤ z) (cs : Array Value) : Frm g r W (W'.setRow z cs) := by
  have hd := below_setRow (Below.refl 0 W') (Nat.zero_le z) cs
  refine ⟨hd.os.trans h.os, hd.tape.trans h.tape, hd.output.trans h.output, Nat.le_trans h.size hd.size, fun k hk hg hr => ?_⟩
  rw [setRow_other W' z k cs (by omega)]
  exact h.block k hk hg hr
/-- another block's row turns -/
theorem SpcR.otherRow {W : World} {g : Nat} {r : Option Nat} {m : Sp.Spc} (h : SpcR W g r m) (z : Nat) (cs : Array Value) (h1 : z ≠ g) (h2 : some z ≠ r) (h3 : ∀ k : Nat, k ≤ 2 → ∀ a n c, W.cell? ⟨g, k, none⟩ = some (.slice (some a) n c) → a.block ≠ z) : SpcR (W.setRow z cs) g r m := by
  obtain ⟨v0, v1, v2, vb, k1, k2, k3, k4, k5, k6⟩ := h
  have key : ∀ (x : Value) (l : List Sp.S) (k : Nat), k ≤ 2 → W.cell? ⟨g, k, none⟩ = some x → SlF W g r x l → SlF (W.setRow z cs) g r x l := fun x l k hk hc hx => by
    refine ⟨(Frm.setRow z none W cs).slr hx.1 fun b hb => ⟨fun e => ?_, by simp⟩, hx.2⟩
    obtain ⟨p, cap, hv, _⟩ := hx.1
    rw [hv] at hb hc
    cases p with
    | none => cases hb
    | some a =>
      have hab : a.block = b := Option.some.inj hb
      exact h3 k hk a _ _ hc (by omega)
  have hgr : W.grownBy (W.setRow z cs) (some z) := by
    have hd := below_setRow (Below.refl 0 W) (Nat.zero_le z) cs
    exact ⟨hd.os, hd.tape, hd.output, hd.size, fun k hk hne => setRow_other W z k cs (fun e => hne (by rw [e]))⟩
  exact ⟨v0, v1, v2, vb, k1.otherRow _ _ (Ne.symm h1), key v0 _ 0 (by omega) (k1.cell 0) k2, key v1 _ 1 (by omega) (k1.cell 1) k3, key v2 _ 2 (by omega) (k1.cell 2) k4, k5.kept hgr (Or.inr fun e => h2 (e.symm.trans k6)), k6⟩
theorem SpcR.slices {W : World} {g : Nat} {r : Option Nat} {m : Sp.Spc} (h : SpcR W g r m) : ∀ k : Nat, k ≤ 2 → ∀ a n c, W.cell? ⟨g, k, none⟩ = some (.slice (some a) n c) → a.block < W.heap.size ∧ a.block ≠ g ∧ some a.block ≠ r := by
  obtain ⟨v0, v1, v2, vb, k1, k2, k3, k4, k5, k6⟩ := h
  have key : ∀ (x : Value) (l : List Sp.S), SlF W g r x l → ∀ a n c, x = .slice (some a) n c → a.block < W.heap.size ∧ a.block ≠ g ∧ some a.block ≠ r := fun x l hx a n c e => by
    subst e
    exact ⟨hx.1.own_lt a.block rfl, hx.2 a.block rfl⟩
  intro k hk a n c hc
  have hk3 : k = 0 ∨ k = 1 ∨ k = 2 := by omega
  rcases hk3 with rfl | rfl | rfl
  · exact key v0 _ k2 a n c (Option.some.inj ((k1.cell 0).symm.trans hc))
  · exact key v1 _ k3 a n c (Option.some.inj ((k1.cell 1).symm.trans hc))
  · exact key v2 _ k4 a n c (Option.some.inj ((k1.cell 2).symm.trans hc))
theorem Old.below {g : Nat} {W W' W'' : World} (h : Old g W W') (hg : g < W'.heap.size) (hb : Below W'.heap.size W' W'') : Old g W W'' := fun k hk a n c hc => h k hk a n c (by rw [← hb.cell (p := ⟨g, k, none⟩) hg]; exact hc)
theorem Old.row {g : Nat} {W W' : World} (h : Old g W W') {z : Nat} (hz : z ≠ g) (cs : Array Value) : Old g W (W'.setRow z cs) := fun k hk a n c hc => h k hk a n c (by
  rw [← hc]
  exact (World.cell?_of_block (a := ⟨g, k, none⟩) (setRow_other W' z g cs (Ne.symm hz))).symm)
/-- the document's step first, then the space's; at last the result's block is written -/
theorem both {w W0 w1 W2 w3 w4 : World} {g : Nat} {r : Option Nat} {m q : Sp.Spc} {vL v' : Value} (hS : SpcR w g r m) (hv : SlF4 w g r vL m.L)
    (hb0 : Below w.heap.size w W0) (h0 : w.heap.size + 2 < W0.heap.size) (h1 : SlR w1 4 encBk v' q.L) (hn1 : NewV W0 vL v') (hb1 : Below W0.heap.size W0 w1) (hb2 : Below w1.heap.size w1 W2)
    (hL : Left g r q W2 w3) (hb3 : Below w3.heap.size w3 w4) (cs : Array Value) : ∃ r', Bth w (w4.setRow (w.heap.size + 2) cs) g r r' q vL v' := by
  obtain ⟨r', S3, nr, fr, old⟩ := hL
  have hg := hS.lt
  have hr := hS.row
  have s0 : w.heap.size ≤ W0.heap.size := hb0.size
  have s1 := hb1.size
  have s2 := hb2.size
  have s3 := fr.size
  have s4 := hb3.size
  have hb02 : Below w.heap.size w W2 := (hb0.trans (hb1.mono s0)).trans (hb2.mono (by omega))
  have hrr : ∀ b, r' = some b → b < w.heap.size ∨ W2.heap.size ≤ b := fun b hb => by
    rcases nr with e | ⟨c, e, hc⟩
    · exact Or.inl (hr b (e.symm.trans hb)).2
    · rw [e] at hb; cases hb; exact Or.inr hc
  have hvb : ∀ b, v'.ownBlock = some b → (vL.ownBlock = some b ∧ b < w.heap.size) ∨ (W0.heap.size ≤ b ∧ b < w1.heap.size) := fun b hb => by
    rcases hn1 b hb with e | e
    · exact Or.inl ⟨e, hv.1.own_lt b e⟩
    · exact Or.inr ⟨e, h1.own_lt b hb⟩
  have S4 := S3.below hb3
  have O4 := old.below S3.lt hb3
  have F24 : Frm g r W2 w4 := fr.trans (Frm.of_below hb3) nr
  have O24 : Old g w w4 := (Old.of_below hg hb02).trans O4 (by omega)
  have hne : ∀ b, v'.ownBlock = some b → b ≠ g ∧ some b ≠ r ∧ some b ≠ r' ∧ b ≠ w.heap.size + 2 := fun b hb => by
    rcases hvb b hb with ⟨e, h⟩ | ⟨h, h'⟩
    · obtain ⟨d1, d2⟩ := hv.2 b e
      refine ⟨d1, d2, fun e' => ?_, by omega⟩
      rcases nr with e3 | ⟨c, e3, hc⟩
      · exact d2 (e'.trans e3)
      · rw [e3] at e'; cases e'; omega
    · refine ⟨by omega, fun e' => by have := (hr b e'.symm).2; omega, fun e' => by have := hrr b e'.symm; omega, by omega⟩
  refine ⟨r', S4.otherRow _ _ (by omega) (fun e => by have := hrr _ e.symm; omega) (fun k hk a n c hc => ?_), ?_, ?_, ?_, ⟨?_, fun b hb => ⟨(hne b hb).1, (hne b hb).2.2.1⟩⟩, fun b hb => ?_⟩
  · rcases O4 k hk a n c hc with e | ⟨j, a', n', c', hj, hc', e⟩
    · omega
    · have hcw : w.cell? ⟨g, j, none⟩ = some (.slice (some a') n' c') := by rw [← hb02.cell (p := ⟨g, j, none⟩) hg]; exact hc'
      have := (hS.slices j hj a' n' c' hcw).1
      omega
  · rcases nr with e | ⟨c, e, hc⟩
    · exact Or.inl e
    · exact Or.inr ⟨c, e, by omega⟩
  · exact ((Frm.of_below hb02).trans F24 (NewRow.refl _ _)).rowAt (by omega) _
  · exact O24.row (by omega) _
  · have t2 := h1.below hb2 (Nat.le_refl _)
    have t4 := F24.slr t2 (fun b hb => ⟨(hne b hb).1, (hne b hb).2.1⟩)
    exact (Frm.setRow _ none w4 cs).slr t4 (fun b hb => ⟨(hne b hb).2.2.2, by simp⟩)
  · rcases hvb b hb with ⟨e, h⟩ | ⟨h, h'⟩
    · exact Or.inl e
    · exact Or.inr (by omega)
end Go.Proofs.Ytbeombmblifohaa

/- Layer 12's laws: a step of both (areas, take, free). -/
namespace Go.Proofs.Ytbeombmblifohaa
set_option linter.unusedVariables false
set_option linter.unusedSimpArgs false
open Go.RowKit Go.Shelf Go.Proofs

theorem wpList_store_newS {P : Program} {ops : Array Oper} {rest : List Oper} {o : Oper} {a : Act} {w : World} {Q : Exit → Act → World → Prop} (hgd : o.guard = none) (ty : TypeId) (x y : Operand) (ho : o.op = .store ty x y)
    (cells : Array Value) (hx : a.eval x = .pointer (some ⟨w.heap.size, 0, none⟩)) (hy : a.eval y = .agg cells) (t : TypeId) (old : Array Value) (hi : (P.info? ty).map (·.size) = some cells.size) (hold : old.size = cells.size) (h1 : cells.all (·.oneCell') = true)
    (h : wpList P ops Q rest (a.put o.dst undef) (w.alloc (.cells cells t))) : wpList P ops Q (o :: rest) a (w.alloc (.cells old t)) := by
  refine wpList_store_row hgd ty x y ho w.heap.size cells hx hy t old (heap_alloc_last w _) hi hold h1 ?_
  rw [World.setRow_alloc_new]
  exact h
/-- both come back, the answers being the same -/
def RetDo (g : Nat) (r : Option Nat) (m' : Sp.Spc) (vL : Value) (w : World) (e : Ending) (w' : World) : Prop := ∃ v' r', e = .returned (.tuple #[.agg (sA m' v'), .bool true]) ∧ Bth w w' g r r' m' vL v'
def stpA (k o a z f l : Int) : Array Value := #[.int .i64 k, .int .i64 o, .int .i64 a, .int .i64 z, .int .i64 f, .int .i64 l]
/-- the step's box, the result's, and that of the document's space behind its step -/
structure DC (w W : World) (s : Nat) (q : Sp.Spc) (v' : Value) (X : Array Value) : Prop where
  x : Blk W (w.heap.size + 1) 35 X
  z : ∃ cs, Blk W (w.heap.size + 2) 31 cs ∧ cs.size = 7
  n : Blk W s 31 (sA q v')
  lt : w.heap.size + 2 < s
section
variable {w W W' : World} {s : Nat} {q : Sp.Spc} {v' : Value} {X : Array Value}
theorem DC.keep (h : DC w W s q v' X) (hk : ∀ k, w.heap.size ≤ k → k < W.heap.size → W'.heap[k]? = W.heap[k]?) : DC w W' s q v' X := by
  obtain ⟨cs, h1, h2⟩ := h.z
  have := h.lt
  exact ⟨(hk _ (by omega) h.x.lt).trans h.x, ⟨cs, (hk _ (by omega) h1.lt).trans h1, h2⟩, (hk _ (by omega) h.n.lt).trans h.n, h.lt⟩
theorem DC.next (h : DC w W s q v' X) (hb : Below W.heap.size W W') : DC w W' s q v' X := h.keep fun k _ hk => hb.block k hk
theorem DC.drew (h : DC w W s q v' X) : DC w W.drew s q v' X := h.next (Below.refl _ _).drew
theorem DC.left (h : DC w W s q v' X) {g : Nat} {r : Option Nat} {m : Sp.Spc} (hL : Left g r m W W') (hg : g < w.heap.size) (hr : ∀ b, r = some b → b < w.heap.size) : DC w W' s q v' X := by
  obtain ⟨r', _, _, fr, _⟩ := hL
  exact h.keep fun k h1 hk => fr.block k hk (by omega) (fun e => by have := hr k e.symm; omega)
theorem DC.setZ (h : DC w W s q v' X) : DC w (W.setRow (w.heap.size + 2) (sA q v')) s q v' X := by
  obtain ⟨cs, h1, h2⟩ := h.z
  have := h.lt
  exact ⟨h.x.otherRow _ _ (by omega), ⟨_, h1.setRow _, rfl⟩, h.n.otherRow _ _ (by omega), h.lt⟩
end
/-- the boxes of 'do' -/
def W0 (w : World) (m : Sp.Spc) (vL : Value) (X : Array Value) : World := ((w.alloc (.cells (sA m vL) 31)).alloc (.cells X 35)).alloc (.cells (sA Sp.spc0 (.slice none 0 0)) 31)
theorem W0.below (w : World) (m : Sp.Spc) (vL : Value) (X : Array Value) : Below w.heap.size w (W0 w m vL X) := ((belowA w _).alloc (by simp) _).alloc (by simp; omega) _
theorem W0.size (w : World) (m : Sp.Spc) (vL : Value) (X : Array Value) : w.heap.size + 2 < (W0 w m vL X).heap.size := by unfold W0; simp
theorem W0.dc {w w1 : World} {m : Sp.Spc} {vL : Value} {X : Array Value} (hb : Below (W0 w m vL X).heap.size (W0 w m vL X) w1) (q : Sp.Spc) (v' : Value) : DC w (w1.alloc (.cells (sA q v') 31)) w1.heap.size q v' X := by
  have h1 := Blk.new (w.alloc (.cells (sA m vL) 31)) 35 X
  have h2 := Blk.new ((w.alloc (.cells (sA m vL) 31)).alloc (.cells X 35)) 31 (sA Sp.spc0 (.slice none 0 0))
  simp only [World.size_alloc] at h1 h2
  have hz := W0.size w m vL X
  have hs := hb.size
  have hx : Blk (W0 w m vL X) (w.heap.size + 1) 35 X := h1.alloc _
  have hy : Blk (W0 w m vL X) (w.heap.size + 2) 31 (sA Sp.spc0 (.slice none 0 0)) := h2
  exact ⟨(hx.below hb hx.lt).alloc _, ⟨_, (hy.below hb hy.lt).alloc _, rfl⟩, Blk.new _ _ _, by omega⟩
set_option maxRecDepth 100000 in
set_option maxHeartbeats 8000000 in
theorem law_do0 (g : Nat) (r : Option Nat) (m : Sp.Spc) (hm : Sp.WF m) (hl : m.L.length ≤ 1000) (o a z f l : Int) (vL : Value) (w : World) (h : SpcR w g r m) (hv : SlF4 w g r vL m.L) :
    Calls Try.prog 9 #[.pointer (some ⟨g, 0, none⟩), .agg (sA m vL), .agg #[.int .i64 0, .int .i64 o, .int .i64 a, .int .i64 z, .int .i64 f, .int .i64 l]] w (RetDo g r (Sp.carveR m a (f, l)).1 vL w) := by
  have HS := Lib.hid h
  have HV := Lib.hid hv
  have hg := h.lt
  have hr := fun b (hb : r = some b) => (h.row b hb).2
  have HRW := Lib.hid hr
  obtain ⟨q, c, hq⟩ : ∃ q c, Sp.carveR m a (f, l) = (q, c) := ⟨_, _, rfl⟩
  have CR := Lib.hid fun (W : World) (h : SlR W 4 encBk vL m.L) => r12_Carve m hm (by omega) vL a f l W h
  have CV := Lib.hid fun (W : World) (h : SpcR W g r m) => spc_Carve g r m hm a f l W h
  rw [hq] at CR CV ⊢
  have HB0 := Lib.hid (W0.below w m vL (stpA 0 o a z f l))
  have HZ0 := Lib.hid (W0.size w m vL (stpA 0 o a z f l))
  have HD0 := Lib.hid fun (w1 : World) (hb : Below (W0 w m vL (stpA 0 o a z f l)).heap.size (W0 w m vL (stpA 0 o a z f l)) w1) => W0.dc hb q
  have HV0 : Hid (SlR (W0 w m vL (stpA 0 o a z f l)) 4 encBk vL m.L) := Lib.hid (hv.1.below HB0.out (Nat.le_refl _))
  obtain ⟨⟨p, cap, rfl, hc1, hc2, -⟩, -⟩ := hv
  obtain ⟨⟨x1, y1⟩, ⟨x2, y2⟩, L⟩ := m
  simp only [sA, stpA, W0, Sp.spc0] at HB0 HZ0 HD0 HV0 CR ⊢
  clear h hq hr
  go_enter Try.func9, Try.ntmps9
  go_wp2_with fail
  refine (CR.out _ HV0.out).mono ?_
  rintro e w1 ⟨v1, rfl, h1, hn1, hb1⟩
  have HD1 := Lib.hid (HD0.out _ hb1 v1)
  obtain ⟨p1, c1, hv1, -, -, -⟩ := id h1
  subst hv1
  have H1 := Lib.hid h1
  have HN1 := Lib.hid hn1
  have HB1 := Lib.hid hb1
  clear h1 hn1 hb1
  go_wp2_with (refine wpList_store_newS rfl _ _ _ rfl (sA q (.slice p1 q.L.length c1)) rfl rfl _ _ infoS rfl (oneS _ _ _ _) ?_)
  have HS2 : Hid (SpcR (w1.alloc (.cells (sA q (.slice p1 q.L.length c1)) 31)).drew g r ⟨(x1, y1), (x2, y2), L⟩) := Lib.hid (((HS.out.below HB0.out).below HB1.out).below (below_drewN (belowA _ _) 1))
  refine wp_region_held_drew (S := fun W => DC w W w1.heap.size q (.slice p1 q.L.length c1) #[.int .i64 0, .int .i64 o, .int .i64 a, .int .i64 z, .int .i64 f, .int .i64 l]) (by kernel_rfl) HD1.out.drew (fun hHeld => ?_)
  refine wpAnyH_take (i := 0) rfl (by kernel_rfl) (by kernel_rfl) (by kernel_rfl) (fun _ _ _ h => h) (yieldsIf_load_row (by rfl) _ _ rfl (w1.heap.size) rfl _ (sA q (.slice p1 q.L.length c1)) _ (fun w h => h.n) Try.underlying31 rfl infoS) (by assumption) ?_
  simp only [Act.put, List.setIfInBounds_toArray, List.set_cons_zero, List.set_cons_succ, List.getElem_toArray, List.getElem_cons_zero, List.getElem_cons_succ]
  refine wpAnyH_take (i := 1) (v := ?_) rfl (by kernel_rfl) (by kernel_rfl) (by kernel_rfl) (fun _ _ _ h => h) (Or.inl ⟨by rfl, ?_⟩) (by assumption) ?_
  rotate_left
  · intro w hSw; go_simp; try with_reducible rfl
  simp only [Act.put, List.setIfInBounds_toArray, List.set_cons_zero, List.set_cons_succ, List.getElem_toArray, List.getElem_cons_zero, List.getElem_cons_succ]
  refine wpAnyH_take (i := 2) (v := ?_) rfl (by kernel_rfl) (by kernel_rfl) (by kernel_rfl) (fun _ _ _ h => h) (Or.inl ⟨by rfl, ?_⟩) (by assumption) ?_
  rotate_left
  · intro w hSw; go_simp; try with_reducible rfl
  simp only [Act.put, List.setIfInBounds_toArray, List.set_cons_zero, List.set_cons_succ, List.getElem_toArray, List.getElem_cons_zero, List.getElem_cons_succ]
  refine wpAnyH_take (i := 3) (v := ?_) rfl (by kernel_rfl) (by kernel_rfl) (by kernel_rfl) (fun _ _ _ h => h) (Or.inl ⟨by rfl, ?_⟩) (by assumption) ?_
  rotate_left
  · intro w h; have k2 := h.x.cell 2; go_simp; try with_reducible rfl
  simp only [Act.put, List.setIfInBounds_toArray, List.set_cons_zero, List.set_cons_succ, List.getElem_toArray, List.getElem_cons_zero, List.getElem_cons_succ]
  refine wpAnyH_take (i := 4) (v := ?_) rfl (by kernel_rfl) (by kernel_rfl) (by kernel_rfl) (fun _ _ _ h => h) (Or.inl ⟨by rfl, ?_⟩) (by assumption) ?_
  rotate_left
  · intro w hSw; go_simp; try with_reducible rfl
  simp only [Act.put, List.setIfInBounds_toArray, List.set_cons_zero, List.set_cons_succ, List.getElem_toArray, List.getElem_cons_zero, List.getElem_cons_succ]
  refine wpAnyH_take (i := 5) (v := ?_) rfl (by kernel_rfl) (by kernel_rfl) (by kernel_rfl) (fun _ _ _ h => h) (Or.inl ⟨by rfl, ?_⟩) (by assumption) ?_
  rotate_left
  · intro w h; have k4 := h.x.cell 4; have k5 := h.x.cell 5; go_simp; try with_reducible rfl
  simp only [Act.put, List.setIfInBounds_toArray, List.set_cons_zero, List.set_cons_succ, List.getElem_toArray, List.getElem_cons_zero, List.getElem_cons_succ]
  refine wpAnyH_take (i := 7) (v := ?_) rfl (by kernel_rfl) (by kernel_rfl) (by kernel_rfl) (fun _ _ _ h => h) (Or.inl ⟨by rfl, ?_⟩) (by assumption) ?_
  rotate_left
  · intro w hSw; go_simp; try with_reducible rfl
  simp only [Act.put, List.setIfInBounds_toArray, List.set_cons_zero, List.set_cons_succ, List.getElem_toArray, List.getElem_cons_zero, List.getElem_cons_succ]
  refine held_step (i := 6) rfl (by kernel_rfl) (by rfl) (fun K hK => ?_)
  go_simp
  refine (CV.out _ HS2.out).mono ?_; rintro e w3 ⟨rfl, hL3⟩; have HL3 := Lib.hid hL3; have HD3 := hHeld.left hL3 hg HRW.out
  go_wp2_with fail
  refine hK.out _ _ (HD3) (fun hHeld => ?_)
  clear hK K
  try simp only [Act.put, List.setIfInBounds_toArray, List.set_cons_zero, List.set_cons_succ, List.getElem_toArray, List.getElem_cons_zero, List.getElem_cons_succ]
  refine wpAnyH_take (i := 8) (v := ?_) rfl (by kernel_rfl) (by kernel_rfl) (by kernel_rfl) (fun _ _ _ h => h) (Or.inl ⟨by rfl, ?_⟩) (by assumption) ?_
  rotate_left
  · intro w hSw; go_simp; try with_reducible rfl
  simp only [Act.put, List.setIfInBounds_toArray, List.set_cons_zero, List.set_cons_succ, List.getElem_toArray, List.getElem_cons_zero, List.getElem_cons_succ]
  obtain ⟨cs, hcs, hsz⟩ := HD3.z
  refine held_step (i := 9) rfl (by kernel_rfl) (by rfl) (fun K hK => ?_)
  refine wp_store_row _ _ _ rfl (w.heap.size + 2) (sA q (.slice p1 q.L.length c1)) rfl rfl _ (cs) (hcs) infoS (hsz) (oneS _ _ _ _) ?_
  refine hK.out _ _ (HD3.setZ) (fun hHeld => ?_)
  clear hK K
  try simp only [Act.put, List.setIfInBounds_toArray, List.set_cons_zero, List.set_cons_succ, List.getElem_toArray, List.getElem_cons_zero, List.getElem_cons_succ]
  refine wpAnyH_take (i := 10) (v := ?_) rfl (by kernel_rfl) (by kernel_rfl) (by kernel_rfl) (fun _ _ _ h => h) (Or.inl ⟨by rfl, ?_⟩) (by assumption) ?_
  rotate_left
  · intro w hSw; go_simp; try with_reducible rfl
  simp only [Act.put, List.setIfInBounds_toArray, List.set_cons_zero, List.set_cons_succ, List.getElem_toArray, List.getElem_cons_zero, List.getElem_cons_succ]
  refine wpAnyH_done (by kernel_rfl) ?_ _
  go_wp2_with fail
  have HE := both (w := w) (w4 := w3) HS.out HV.out HB0.out HZ0.out H1.out HN1.out HB1.out (below_drewN (belowA _ _) 1) HL3.out (Below.refl _ _) (sA q (.slice p1 q.L.length c1))
  obtain ⟨r', HE⟩ := HE
  exact bodyPost_ret (results_ct rfl _ _ _ _ _ _ _ rfl (hcs.setRow _) Try.underlying31 rfl infoS) rfl ⟨_, r', rfl, HE⟩
set_option maxRecDepth 100000 in
set_option maxHeartbeats 8000000 in
theorem law_do1 (g : Nat) (r : Option Nat) (m : Sp.Spc) (hm : Sp.WF m) (hl : m.L.length ≤ 1000) (o a z f l : Int) (vL : Value) (w : World) (h : SpcR w g r m) (hv : SlF4 w g r vL m.L) :
    Calls Try.prog 9 #[.pointer (some ⟨g, 0, none⟩), .agg (sA m vL), .agg #[.int .i64 1, .int .i64 o, .int .i64 a, .int .i64 z, .int .i64 f, .int .i64 l]] w (RetDo g r (Sp.closeR m a).1 vL w) := by
  have HS := Lib.hid h
  have HV := Lib.hid hv
  have hg := h.lt
  have hr := fun b (hb : r = some b) => (h.row b hb).2
  have HRW := Lib.hid hr
  obtain ⟨q, c, hq⟩ : ∃ q c, Sp.closeR m a = (q, c) := ⟨_, _, rfl⟩
  have CR := Lib.hid fun (W : World) (h : SlR W 4 encBk vL m.L) => r12_Close m (by omega) vL a W h
  have CV := Lib.hid fun (W : World) (h : SpcR W g r m) => spc_Close g r m hm hl a W h
  rw [hq] at CR CV ⊢
  have HB0 := Lib.hid (W0.below w m vL (stpA 1 o a z f l))
  have HZ0 := Lib.hid (W0.size w m vL (stpA 1 o a z f l))
  have HD0 := Lib.hid fun (w1 : World) (hb : Below (W0 w m vL (stpA 1 o a z f l)).heap.size (W0 w m vL (stpA 1 o a z f l)) w1) => W0.dc hb q
  have HV0 : Hid (SlR (W0 w m vL (stpA 1 o a z f l)) 4 encBk vL m.L) := Lib.hid (hv.1.below HB0.out (Nat.le_refl _))
  obtain ⟨⟨p, cap, rfl, hc1, hc2, -⟩, -⟩ := hv
  obtain ⟨⟨x1, y1⟩, ⟨x2, y2⟩, L⟩ := m
  simp only [sA, stpA, W0, Sp.spc0] at HB0 HZ0 HD0 HV0 CR ⊢
  clear h hq hr
  go_enter Try.func9, Try.ntmps9
  go_wp2_with fail
  refine (CR.out _ HV0.out).mono ?_
  rintro e w1 ⟨v1, rfl, h1, hn1, hb1⟩
  have HD1 := Lib.hid (HD0.out _ hb1 v1)
  obtain ⟨p1, c1, hv1, -, -, -⟩ := id h1
  subst hv1
  have H1 := Lib.hid h1
  have HN1 := Lib.hid hn1
  have HB1 := Lib.hid hb1
  clear h1 hn1 hb1
  go_wp2_with (refine wpList_store_newS rfl _ _ _ rfl (sA q (.slice p1 q.L.length c1)) rfl rfl _ _ infoS rfl (oneS _ _ _ _) ?_)
  have HS2 : Hid (SpcR (w1.alloc (.cells (sA q (.slice p1 q.L.length c1)) 31)).drew g r ⟨(x1, y1), (x2, y2), L⟩) := Lib.hid (((HS.out.below HB0.out).below HB1.out).below (below_drewN (belowA _ _) 1))
  refine wp_region_held_drew (S := fun W => DC w W w1.heap.size q (.slice p1 q.L.length c1) #[.int .i64 1, .int .i64 o, .int .i64 a, .int .i64 z, .int .i64 f, .int .i64 l]) (by kernel_rfl) HD1.out.drew (fun hHeld => ?_)
  refine wpAnyH_take (i := 0) rfl (by kernel_rfl) (by kernel_rfl) (by kernel_rfl) (fun _ _ _ h => h) (yieldsIf_load_row (by rfl) _ _ rfl (w1.heap.size) rfl _ (sA q (.slice p1 q.L.length c1)) _ (fun w h => h.n) Try.underlying31 rfl infoS) (by assumption) ?_
  simp only [Act.put, List.setIfInBounds_toArray, List.set_cons_zero, List.set_cons_succ, List.getElem_toArray, List.getElem_cons_zero, List.getElem_cons_succ]
  refine wpAnyH_take (i := 1) (v := ?_) rfl (by kernel_rfl) (by kernel_rfl) (by kernel_rfl) (fun _ _ _ h => h) (Or.inl ⟨by rfl, ?_⟩) (by assumption) ?_
  rotate_left
  · intro w hSw; go_simp; try with_reducible rfl
  simp only [Act.put, List.setIfInBounds_toArray, List.set_cons_zero, List.set_cons_succ, List.getElem_toArray, List.getElem_cons_zero, List.getElem_cons_succ]
  refine wpAnyH_take (i := 2) (v := ?_) rfl (by kernel_rfl) (by kernel_rfl) (by kernel_rfl) (fun _ _ _ h => h) (Or.inl ⟨by rfl, ?_⟩) (by assumption) ?_
  rotate_left
  · intro w hSw; go_simp; try with_reducible rfl
  simp only [Act.put, List.setIfInBounds_toArray, List.set_cons_zero, List.set_cons_succ, List.getElem_toArray, List.getElem_cons_zero, List.getElem_cons_succ]
  refine wpAnyH_take (i := 3) (v := ?_) rfl (by kernel_rfl) (by kernel_rfl) (by kernel_rfl) (fun _ _ _ h => h) (Or.inl ⟨by rfl, ?_⟩) (by assumption) ?_
  rotate_left
  · intro w h; have k2 := h.x.cell 2; go_simp; try with_reducible rfl
  simp only [Act.put, List.setIfInBounds_toArray, List.set_cons_zero, List.set_cons_succ, List.getElem_toArray, List.getElem_cons_zero, List.getElem_cons_succ]
  refine wpAnyH_take (i := 5) (v := ?_) rfl (by kernel_rfl) (by kernel_rfl) (by kernel_rfl) (fun _ _ _ h => h) (Or.inl ⟨by rfl, ?_⟩) (by assumption) ?_
  rotate_left
  · intro w hSw; go_simp; try with_reducible rfl
  simp only [Act.put, List.setIfInBounds_toArray, List.set_cons_zero, List.set_cons_succ, List.getElem_toArray, List.getElem_cons_zero, List.getElem_cons_succ]
  refine held_step (i := 4) rfl (by kernel_rfl) (by rfl) (fun K hK => ?_)
  go_simp
  refine (CV.out _ HS2.out).mono ?_; rintro e w3 ⟨rfl, hL3⟩; have HL3 := Lib.hid hL3; have HD3 := hHeld.left hL3 hg HRW.out
  go_wp2_with fail
  refine hK.out _ _ (HD3) (fun hHeld => ?_)
  clear hK K
  try simp only [Act.put, List.setIfInBounds_toArray, List.set_cons_zero, List.set_cons_succ, List.getElem_toArray, List.getElem_cons_zero, List.getElem_cons_succ]
  refine wpAnyH_take (i := 6) (v := ?_) rfl (by kernel_rfl) (by kernel_rfl) (by kernel_rfl) (fun _ _ _ h => h) (Or.inl ⟨by rfl, ?_⟩) (by assumption) ?_
  rotate_left
  · intro w hSw; go_simp; try with_reducible rfl
  simp only [Act.put, List.setIfInBounds_toArray, List.set_cons_zero, List.set_cons_succ, List.getElem_toArray, List.getElem_cons_zero, List.getElem_cons_succ]
  obtain ⟨cs, hcs, hsz⟩ := HD3.z
  refine held_step (i := 7) rfl (by kernel_rfl) (by rfl) (fun K hK => ?_)
  refine wp_store_row _ _ _ rfl (w.heap.size + 2) (sA q (.slice p1 q.L.length c1)) rfl rfl _ (cs) (hcs) infoS (hsz) (oneS _ _ _ _) ?_
  refine hK.out _ _ (HD3.setZ) (fun hHeld => ?_)
  clear hK K
  try simp only [Act.put, List.setIfInBounds_toArray, List.set_cons_zero, List.set_cons_succ, List.getElem_toArray, List.getElem_cons_zero, List.getElem_cons_succ]
  refine wpAnyH_take (i := 8) (v := ?_) rfl (by kernel_rfl) (by kernel_rfl) (by kernel_rfl) (fun _ _ _ h => h) (Or.inl ⟨by rfl, ?_⟩) (by assumption) ?_
  rotate_left
  · intro w hSw; go_simp; try with_reducible rfl
  simp only [Act.put, List.setIfInBounds_toArray, List.set_cons_zero, List.set_cons_succ, List.getElem_toArray, List.getElem_cons_zero, List.getElem_cons_succ]
  refine wpAnyH_done (by kernel_rfl) ?_ _
  go_wp2_with fail
  have HE := both (w := w) (w4 := w3) HS.out HV.out HB0.out HZ0.out H1.out HN1.out HB1.out (below_drewN (belowA _ _) 1) HL3.out (Below.refl _ _) (sA q (.slice p1 q.L.length c1))
  obtain ⟨r', HE⟩ := HE
  exact bodyPost_ret (results_ct rfl _ _ _ _ _ _ _ rfl (hcs.setRow _) Try.underlying31 rfl infoS) rfl ⟨_, r', rfl, HE⟩
set_option maxRecDepth 100000 in
set_option maxHeartbeats 8000000 in
theorem law_do3 (g : Nat) (r : Option Nat) (m : Sp.Spc) (hm : Sp.WF m) (hl : m.L.length ≤ 1000) (o a z f l : Int) (vL : Value) (w : World) (h : SpcR w g r m) (hv : SlF4 w g r vL m.L) :
    Calls Try.prog 9 #[.pointer (some ⟨g, 0, none⟩), .agg (sA m vL), .agg #[.int .i64 3, .int .i64 o, .int .i64 a, .int .i64 z, .int .i64 f, .int .i64 l]] w (RetDo g r (Sp.takeR m o (f, l)).1 vL w) := by
  have HS := Lib.hid h
  have HV := Lib.hid hv
  have hg := h.lt
  have hr := fun b (hb : r = some b) => (h.row b hb).2
  have HRW := Lib.hid hr
  obtain ⟨q, c, hq⟩ : ∃ q c, Sp.takeR m o (f, l) = (q, c) := ⟨_, _, rfl⟩
  have CR := Lib.hid fun (W : World) (h : SlR W 4 encBk vL m.L) => r12_Take m hm (by omega) vL o f l W h
  have CV := Lib.hid fun (W : World) (h : SpcR W g r m) => spc_Take g r m hm hl o f l W h
  rw [hq] at CR CV ⊢
  have HB0 := Lib.hid (W0.below w m vL (stpA 3 o a z f l))
  have HZ0 := Lib.hid (W0.size w m vL (stpA 3 o a z f l))
  have HD0 := Lib.hid fun (w1 : World) (hb : Below (W0 w m vL (stpA 3 o a z f l)).heap.size (W0 w m vL (stpA 3 o a z f l)) w1) => W0.dc hb q
  have HV0 : Hid (SlR (W0 w m vL (stpA 3 o a z f l)) 4 encBk vL m.L) := Lib.hid (hv.1.below HB0.out (Nat.le_refl _))
  obtain ⟨⟨p, cap, rfl, hc1, hc2, -⟩, -⟩ := hv
  obtain ⟨⟨x1, y1⟩, ⟨x2, y2⟩, L⟩ := m
  simp only [sA, stpA, W0, Sp.spc0] at HB0 HZ0 HD0 HV0 CR ⊢
  clear h hq hr
  go_enter Try.func9, Try.ntmps9
  go_wp2_with fail
  refine (CR.out _ HV0.out).mono ?_
  rintro e w1 ⟨v1, rfl, h1, hn1, hb1⟩
  have HD1 := Lib.hid (HD0.out _ hb1 v1)
  obtain ⟨p1, c1, hv1, -, -, -⟩ := id h1
  subst hv1
  have H1 := Lib.hid h1
  have HN1 := Lib.hid hn1
  have HB1 := Lib.hid hb1
  clear h1 hn1 hb1
  go_wp2_with (refine wpList_store_newS rfl _ _ _ rfl (sA q (.slice p1 q.L.length c1)) rfl rfl _ _ infoS rfl (oneS _ _ _ _) ?_)
  have HS2 : Hid (SpcR (w1.alloc (.cells (sA q (.slice p1 q.L.length c1)) 31)).drew g r ⟨(x1, y1), (x2, y2), L⟩) := Lib.hid (((HS.out.below HB0.out).below HB1.out).below (below_drewN (belowA _ _) 1))
  refine wp_region_held_drew (S := fun W => DC w W w1.heap.size q (.slice p1 q.L.length c1) #[.int .i64 3, .int .i64 o, .int .i64 a, .int .i64 z, .int .i64 f, .int .i64 l]) (by kernel_rfl) HD1.out.drew (fun hHeld => ?_)
  refine wpAnyH_take (i := 0) rfl (by kernel_rfl) (by kernel_rfl) (by kernel_rfl) (fun _ _ _ h => h) (yieldsIf_load_row (by rfl) _ _ rfl (w1.heap.size) rfl _ (sA q (.slice p1 q.L.length c1)) _ (fun w h => h.n) Try.underlying31 rfl infoS) (by assumption) ?_
  simp only [Act.put, List.setIfInBounds_toArray, List.set_cons_zero, List.set_cons_succ, List.getElem_toArray, List.getElem_cons_zero, List.getElem_cons_succ]
  refine wpAnyH_take (i := 1) (v := ?_) rfl (by kernel_rfl) (by kernel_rfl) (by kernel_rfl) (fun _ _ _ h => h) (Or.inl ⟨by rfl, ?_⟩) (by assumption) ?_
  rotate_left
  · intro w hSw; go_simp; try with_reducible rfl
  simp only [Act.put, List.setIfInBounds_toArray, List.set_cons_zero, List.set_cons_succ, List.getElem_toArray, List.getElem_cons_zero, List.getElem_cons_succ]
  refine wpAnyH_take (i := 2) (v := ?_) rfl (by kernel_rfl) (by kernel_rfl) (by kernel_rfl) (fun _ _ _ h => h) (Or.inl ⟨by rfl, ?_⟩) (by assumption) ?_
  rotate_left
  · intro w hSw; go_simp; try with_reducible rfl
  simp only [Act.put, List.setIfInBounds_toArray, List.set_cons_zero, List.set_cons_succ, List.getElem_toArray, List.getElem_cons_zero, List.getElem_cons_succ]
  refine wpAnyH_take (i := 3) (v := ?_) rfl (by kernel_rfl) (by kernel_rfl) (by kernel_rfl) (fun _ _ _ h => h) (Or.inl ⟨by rfl, ?_⟩) (by assumption) ?_
  rotate_left
  · intro w h; have k1 := h.x.cell 1; go_simp; try with_reducible rfl
  simp only [Act.put, List.setIfInBounds_toArray, List.set_cons_zero, List.set_cons_succ, List.getElem_toArray, List.getElem_cons_zero, List.getElem_cons_succ]
  refine wpAnyH_take (i := 4) (v := ?_) rfl (by kernel_rfl) (by kernel_rfl) (by kernel_rfl) (fun _ _ _ h => h) (Or.inl ⟨by rfl, ?_⟩) (by assumption) ?_
  rotate_left
  · intro w hSw; go_simp; try with_reducible rfl
  simp only [Act.put, List.setIfInBounds_toArray, List.set_cons_zero, List.set_cons_succ, List.getElem_toArray, List.getElem_cons_zero, List.getElem_cons_succ]
  refine wpAnyH_take (i := 5) (v := ?_) rfl (by kernel_rfl) (by kernel_rfl) (by kernel_rfl) (fun _ _ _ h => h) (Or.inl ⟨by rfl, ?_⟩) (by assumption) ?_
  rotate_left
  · intro w h; have k4 := h.x.cell 4; have k5 := h.x.cell 5; go_simp; try with_reducible rfl
  simp only [Act.put, List.setIfInBounds_toArray, List.set_cons_zero, List.set_cons_succ, List.getElem_toArray, List.getElem_cons_zero, List.getElem_cons_succ]
  refine wpAnyH_take (i := 7) (v := ?_) rfl (by kernel_rfl) (by kernel_rfl) (by kernel_rfl) (fun _ _ _ h => h) (Or.inl ⟨by rfl, ?_⟩) (by assumption) ?_
  rotate_left
  · intro w hSw; go_simp; try with_reducible rfl
  simp only [Act.put, List.setIfInBounds_toArray, List.set_cons_zero, List.set_cons_succ, List.getElem_toArray, List.getElem_cons_zero, List.getElem_cons_succ]
  refine held_step (i := 6) rfl (by kernel_rfl) (by rfl) (fun K hK => ?_)
  go_simp
  refine (CV.out _ HS2.out).mono ?_; rintro e w3 ⟨rfl, hL3⟩; have HL3 := Lib.hid hL3; have HD3 := hHeld.left hL3 hg HRW.out
  go_wp2_with fail
  refine hK.out _ _ (HD3) (fun hHeld => ?_)
  clear hK K
  try simp only [Act.put, List.setIfInBounds_toArray, List.set_cons_zero, List.set_cons_succ, List.getElem_toArray, List.getElem_cons_zero, List.getElem_cons_succ]
  refine wpAnyH_take (i := 8) (v := ?_) rfl (by kernel_rfl) (by kernel_rfl) (by kernel_rfl) (fun _ _ _ h => h) (Or.inl ⟨by rfl, ?_⟩) (by assumption) ?_
  rotate_left
  · intro w hSw; go_simp; try with_reducible rfl
  simp only [Act.put, List.setIfInBounds_toArray, List.set_cons_zero, List.set_cons_succ, List.getElem_toArray, List.getElem_cons_zero, List.getElem_cons_succ]
  obtain ⟨cs, hcs, hsz⟩ := HD3.z
  refine held_step (i := 9) rfl (by kernel_rfl) (by rfl) (fun K hK => ?_)
  refine wp_store_row _ _ _ rfl (w.heap.size + 2) (sA q (.slice p1 q.L.length c1)) rfl rfl _ (cs) (hcs) infoS (hsz) (oneS _ _ _ _) ?_
  refine hK.out _ _ (HD3.setZ) (fun hHeld => ?_)
  clear hK K
  try simp only [Act.put, List.setIfInBounds_toArray, List.set_cons_zero, List.set_cons_succ, List.getElem_toArray, List.getElem_cons_zero, List.getElem_cons_succ]
  refine wpAnyH_take (i := 10) (v := ?_) rfl (by kernel_rfl) (by kernel_rfl) (by kernel_rfl) (fun _ _ _ h => h) (Or.inl ⟨by rfl, ?_⟩) (by assumption) ?_
  rotate_left
  · intro w hSw; go_simp; try with_reducible rfl
  simp only [Act.put, List.setIfInBounds_toArray, List.set_cons_zero, List.set_cons_succ, List.getElem_toArray, List.getElem_cons_zero, List.getElem_cons_succ]
  refine wpAnyH_done (by kernel_rfl) ?_ _
  go_wp2_with fail
  have HE := both (w := w) (w4 := w3) HS.out HV.out HB0.out HZ0.out H1.out HN1.out HB1.out (below_drewN (belowA _ _) 1) HL3.out (Below.refl _ _) (sA q (.slice p1 q.L.length c1))
  obtain ⟨r', HE⟩ := HE
  exact bodyPost_ret (results_ct rfl _ _ _ _ _ _ _ rfl (hcs.setRow _) Try.underlying31 rfl infoS) rfl ⟨_, r', rfl, HE⟩
set_option maxRecDepth 100000 in
set_option maxHeartbeats 8000000 in
theorem law_do4 (g : Nat) (r : Option Nat) (m : Sp.Spc) (hm : Sp.WF m) (hl : m.L.length ≤ 1000) (o a z f l : Int) (vL : Value) (w : World) (h : SpcR w g r m) (hv : SlF4 w g r vL m.L) :
    Calls Try.prog 9 #[.pointer (some ⟨g, 0, none⟩), .agg (sA m vL), .agg #[.int .i64 4, .int .i64 o, .int .i64 a, .int .i64 z, .int .i64 f, .int .i64 l]] w (RetDo g r (Sp.freeR m o (f, l)).1 vL w) := by
  have HS := Lib.hid h
  have HV := Lib.hid hv
  have hg := h.lt
  have hr := fun b (hb : r = some b) => (h.row b hb).2
  have HRW := Lib.hid hr
  obtain ⟨q, c, hq⟩ : ∃ q c, Sp.freeR m o (f, l) = (q, c) := ⟨_, _, rfl⟩
  have CR := Lib.hid fun (W : World) (h : SlR W 4 encBk vL m.L) => r12_Free m (by omega) vL o f l W h
  have CV := Lib.hid fun (W : World) (h : SpcR W g r m) => spc_Free g r m hm hl o f l W h
  rw [hq] at CR CV ⊢
  have HB0 := Lib.hid (W0.below w m vL (stpA 4 o a z f l))
  have HZ0 := Lib.hid (W0.size w m vL (stpA 4 o a z f l))
  have HD0 := Lib.hid fun (w1 : World) (hb : Below (W0 w m vL (stpA 4 o a z f l)).heap.size (W0 w m vL (stpA 4 o a z f l)) w1) => W0.dc hb q
  have HV0 : Hid (SlR (W0 w m vL (stpA 4 o a z f l)) 4 encBk vL m.L) := Lib.hid (hv.1.below HB0.out (Nat.le_refl _))
  obtain ⟨⟨p, cap, rfl, hc1, hc2, -⟩, -⟩ := hv
  obtain ⟨⟨x1, y1⟩, ⟨x2, y2⟩, L⟩ := m
  simp only [sA, stpA, W0, Sp.spc0] at HB0 HZ0 HD0 HV0 CR ⊢
  clear h hq hr
  go_enter Try.func9, Try.ntmps9
  go_wp2_with fail
  refine (CR.out _ HV0.out).mono ?_
  rintro e w1 ⟨v1, rfl, h1, hn1, hb1⟩
  have HD1 := Lib.hid (HD0.out _ hb1 v1)
  obtain ⟨p1, c1, hv1, -, -, -⟩ := id h1
  subst hv1
  have H1 := Lib.hid h1
  have HN1 := Lib.hid hn1
  have HB1 := Lib.hid hb1
  clear h1 hn1 hb1
  go_wp2_with (refine wpList_store_newS rfl _ _ _ rfl (sA q (.slice p1 q.L.length c1)) rfl rfl _ _ infoS rfl (oneS _ _ _ _) ?_)
  have HS2 : Hid (SpcR (w1.alloc (.cells (sA q (.slice p1 q.L.length c1)) 31)).drew g r ⟨(x1, y1), (x2, y2), L⟩) := Lib.hid (((HS.out.below HB0.out).below HB1.out).below (below_drewN (belowA _ _) 1))
  refine wp_region_held_drew (S := fun W => DC w W w1.heap.size q (.slice p1 q.L.length c1) #[.int .i64 4, .int .i64 o, .int .i64 a, .int .i64 z, .int .i64 f, .int .i64 l]) (by kernel_rfl) HD1.out.drew (fun hHeld => ?_)
  refine wpAnyH_take (i := 0) rfl (by kernel_rfl) (by kernel_rfl) (by kernel_rfl) (fun _ _ _ h => h) (yieldsIf_load_row (by rfl) _ _ rfl (w1.heap.size) rfl _ (sA q (.slice p1 q.L.length c1)) _ (fun w h => h.n) Try.underlying31 rfl infoS) (by assumption) ?_
  simp only [Act.put, List.setIfInBounds_toArray, List.set_cons_zero, List.set_cons_succ, List.getElem_toArray, List.getElem_cons_zero, List.getElem_cons_succ]
  refine wpAnyH_take (i := 1) (v := ?_) rfl (by kernel_rfl) (by kernel_rfl) (by kernel_rfl) (fun _ _ _ h => h) (Or.inl ⟨by rfl, ?_⟩) (by assumption) ?_
  rotate_left
  · intro w hSw; go_simp; try with_reducible rfl
  simp only [Act.put, List.setIfInBounds_toArray, List.set_cons_zero, List.set_cons_succ, List.getElem_toArray, List.getElem_cons_zero, List.getElem_cons_succ]
  refine wpAnyH_take (i := 2) (v := ?_) rfl (by kernel_rfl) (by kernel_rfl) (by kernel_rfl) (fun _ _ _ h => h) (Or.inl ⟨by rfl, ?_⟩) (by assumption) ?_
  rotate_left
  · intro w hSw; go_simp; try with_reducible rfl
  simp only [Act.put, List.setIfInBounds_toArray, List.set_cons_zero, List.set_cons_succ, List.getElem_toArray, List.getElem_cons_zero, List.getElem_cons_succ]
  refine wpAnyH_take (i := 3) (v := ?_) rfl (by kernel_rfl) (by kernel_rfl) (by kernel_rfl) (fun _ _ _ h => h) (Or.inl ⟨by rfl, ?_⟩) (by assumption) ?_
  rotate_left
  · intro w h; have k1 := h.x.cell 1; go_simp; try with_reducible rfl
  simp only [Act.put, List.setIfInBounds_toArray, List.set_cons_zero, List.set_cons_succ, List.getElem_toArray, List.getElem_cons_zero, List.getElem_cons_succ]
  refine wpAnyH_take (i := 4) (v := ?_) rfl (by kernel_rfl) (by kernel_rfl) (by kernel_rfl) (fun _ _ _ h => h) (Or.inl ⟨by rfl, ?_⟩) (by assumption) ?_
  rotate_left
  · intro w hSw; go_simp; try with_reducible rfl
  simp only [Act.put, List.setIfInBounds_toArray, List.set_cons_zero, List.set_cons_succ, List.getElem_toArray, List.getElem_cons_zero, List.getElem_cons_succ]
  refine wpAnyH_take (i := 5) (v := ?_) rfl (by kernel_rfl) (by kernel_rfl) (by kernel_rfl) (fun _ _ _ h => h) (Or.inl ⟨by rfl, ?_⟩) (by assumption) ?_
  rotate_left
  · intro w h; have k4 := h.x.cell 4; have k5 := h.x.cell 5; go_simp; try with_reducible rfl
  simp only [Act.put, List.setIfInBounds_toArray, List.set_cons_zero, List.set_cons_succ, List.getElem_toArray, List.getElem_cons_zero, List.getElem_cons_succ]
  refine wpAnyH_take (i := 7) (v := ?_) rfl (by kernel_rfl) (by kernel_rfl) (by kernel_rfl) (fun _ _ _ h => h) (Or.inl ⟨by rfl, ?_⟩) (by assumption) ?_
  rotate_left
  · intro w hSw; go_simp; try with_reducible rfl
  simp only [Act.put, List.setIfInBounds_toArray, List.set_cons_zero, List.set_cons_succ, List.getElem_toArray, List.getElem_cons_zero, List.getElem_cons_succ]
  refine held_step (i := 6) rfl (by kernel_rfl) (by rfl) (fun K hK => ?_)
  go_simp
  refine (CV.out _ HS2.out).mono ?_; rintro e w3 ⟨rfl, hL3⟩; have HL3 := Lib.hid hL3; have HD3 := hHeld.left hL3 hg HRW.out
  go_wp2_with fail
  refine hK.out _ _ (HD3) (fun hHeld => ?_)
  clear hK K
  try simp only [Act.put, List.setIfInBounds_toArray, List.set_cons_zero, List.set_cons_succ, List.getElem_toArray, List.getElem_cons_zero, List.getElem_cons_succ]
  refine wpAnyH_take (i := 8) (v := ?_) rfl (by kernel_rfl) (by kernel_rfl) (by kernel_rfl) (fun _ _ _ h => h) (Or.inl ⟨by rfl, ?_⟩) (by assumption) ?_
  rotate_left
  · intro w hSw; go_simp; try with_reducible rfl
  simp only [Act.put, List.setIfInBounds_toArray, List.set_cons_zero, List.set_cons_succ, List.getElem_toArray, List.getElem_cons_zero, List.getElem_cons_succ]
  obtain ⟨cs, hcs, hsz⟩ := HD3.z
  refine held_step (i := 9) rfl (by kernel_rfl) (by rfl) (fun K hK => ?_)
  refine wp_store_row _ _ _ rfl (w.heap.size + 2) (sA q (.slice p1 q.L.length c1)) rfl rfl _ (cs) (hcs) infoS (hsz) (oneS _ _ _ _) ?_
  refine hK.out _ _ (HD3.setZ) (fun hHeld => ?_)
  clear hK K
  try simp only [Act.put, List.setIfInBounds_toArray, List.set_cons_zero, List.set_cons_succ, List.getElem_toArray, List.getElem_cons_zero, List.getElem_cons_succ]
  refine wpAnyH_take (i := 10) (v := ?_) rfl (by kernel_rfl) (by kernel_rfl) (by kernel_rfl) (fun _ _ _ h => h) (Or.inl ⟨by rfl, ?_⟩) (by assumption) ?_
  rotate_left
  · intro w hSw; go_simp; try with_reducible rfl
  simp only [Act.put, List.setIfInBounds_toArray, List.set_cons_zero, List.set_cons_succ, List.getElem_toArray, List.getElem_cons_zero, List.getElem_cons_succ]
  refine wpAnyH_done (by kernel_rfl) ?_ _
  go_wp2_with fail
  have HE := both (w := w) (w4 := w3) HS.out HV.out HB0.out HZ0.out H1.out HN1.out HB1.out (below_drewN (belowA _ _) 1) HL3.out (Below.refl _ _) (sA q (.slice p1 q.L.length c1))
  obtain ⟨r', HE⟩ := HE
  exact bodyPost_ret (results_ct rfl _ _ _ _ _ _ _ rfl (hcs.setRow _) Try.underlying31 rfl infoS) rfl ⟨_, r', rfl, HE⟩
end Go.Proofs.Ytbeombmblifohaa
