/- The document's spaces: Carve. -/
import Derived.Test.YtbeombmblifohaaSpcRef3
namespace Go.Proofs.Ytbeombmblifohaa
set_option linter.unusedVariables false
set_option linter.unusedSimpArgs false
open Go.RowKit Go.Shelf Go.Proofs

/-- the boxes of Carve, Take, Free -/
structure QC (w W : World) (m : Sp.Spc) (vL : Value) (a b : Int) : Prop where
  U : QU w W w.heap.size m vL
  bs : Blk W (w.heap.size + 1) 27 #[.int .i64 a, .int .i64 b]
  bz : Blk W (w.heap.size + 2) 31 (sA Sp.spc0 (.slice none 0 0))
section
variable {w W W' : World} {m : Sp.Spc} {vL : Value} {a b : Int}
theorem QC.next (h : QC w W m vL a b) (hb : Below W.heap.size W W') : QC w W' m vL a b := ⟨h.U.next hb, h.bs.below hb h.bs.lt, h.bz.below hb h.bz.lt⟩
theorem QC.drew (h : QC w W m vL a b) : QC w W.drew m vL a b := h.next (Below.refl _ _).drew
theorem QC.first (h : SlR w 4 encBk vL m.L) (a b : Int) : QC w (((w.alloc (.cells (sA m vL) 31)).alloc (.cells #[.int .i64 a, .int .i64 b] 27)).alloc (.cells (sA Sp.spc0 (.slice none 0 0)) 31)) m vL a b := by
  have h1 := Blk.new (w.alloc (.cells (sA m vL) 31)) 27 #[.int .i64 a, .int .i64 b]
  have h2 := Blk.new ((w.alloc (.cells (sA m vL) 31)).alloc (.cells #[.int .i64 a, .int .i64 b] 27)) 31 (sA Sp.spc0 (.slice none 0 0))
  simp only [World.size_alloc] at h1 h2
  exact ⟨((QU.first w m vL h).next (belowA _ _)).next (belowA _ _), h1.alloc _, h2⟩
/-- the end: the result's block is written -/
theorem QC.set (h : QC w W m vL a b) (m' : Sp.Spc) (v' : Value) : Below w.heap.size w (W.setRow (w.heap.size + 2) (sA m' v')) ∧ Blk (W.setRow (w.heap.size + 2) (sA m' v')) (w.heap.size + 2) 31 (sA m' v') :=
  ⟨below_setRow h.U.bel (by omega) _, h.bz.setRow _⟩
end
abbrev SQ (n : Nat) (x1 y1 x2 y2 : Int) (vL : Value) (a b : Int) (W : World) : Prop :=
  W.cell? ⟨n, 0, none⟩ = some (.int .i64 0) ∧ W.cell? ⟨n, 1, none⟩ = some (.int .i64 0) ∧ W.cell? ⟨n, 2, none⟩ = some (.int .i64 x1) ∧ W.cell? ⟨n, 3, none⟩ = some (.int .i64 y1) ∧
  W.cell? ⟨n, 4, none⟩ = some (.int .i64 x2) ∧ W.cell? ⟨n, 5, none⟩ = some (.int .i64 y2) ∧ W.cell? ⟨n, 6, none⟩ = some vL ∧ W.cell? ⟨n + 1, 0, none⟩ = some (.int .i64 a) ∧ W.cell? ⟨n + 1, 1, none⟩ = some (.int .i64 b)
theorem QC.sq {w W : World} {x1 y1 x2 y2 : Int} {L : List Sp.Bk} {vL : Value} {a b : Int} (h : QC w W ⟨(x1, y1), (x2, y2), L⟩ vL a b) : SQ w.heap.size x1 y1 x2 y2 vL a b W :=
  ⟨h.U.bx.cell 0, h.U.bx.cell 1, h.U.bx.cell 2, h.U.bx.cell 3, h.U.bx.cell 4, h.U.bx.cell 5, h.U.bx.cell 6, h.bs.cell 0, h.bs.cell 1⟩
abbrev SQ2 (w : World) (x1 y1 x2 y2 : Int) (L : List Sp.Bk) (vL : Value) (a b : Int) (W : World) : Prop :=
  W.cell? ⟨w.heap.size, 0, none⟩ = some (.int .i64 0) ∧ W.cell? ⟨w.heap.size, 1, none⟩ = some (.int .i64 0) ∧ W.cell? ⟨w.heap.size, 2, none⟩ = some (.int .i64 x1) ∧ W.cell? ⟨w.heap.size, 3, none⟩ = some (.int .i64 y1) ∧
  W.cell? ⟨w.heap.size, 4, none⟩ = some (.int .i64 x2) ∧ W.cell? ⟨w.heap.size, 5, none⟩ = some (.int .i64 y2) ∧ W.cell? ⟨w.heap.size, 6, none⟩ = some vL ∧ W.cell? ⟨w.heap.size + 1, 0, none⟩ = some (.int .i64 a) ∧ W.cell? ⟨w.heap.size + 1, 1, none⟩ = some (.int .i64 b) ∧ QC w W ⟨(x1, y1), (x2, y2), L⟩ vL a b
theorem QC.sq2 {w W : World} {x1 y1 x2 y2 : Int} {L : List Sp.Bk} {vL : Value} {a b : Int} (h : QC w W ⟨(x1, y1), (x2, y2), L⟩ vL a b) : SQ2 w x1 y1 x2 y2 L vL a b W :=
  ⟨h.U.bx.cell 0, h.U.bx.cell 1, h.U.bx.cell 2, h.U.bx.cell 3, h.U.bx.cell 4, h.U.bx.cell 5, h.U.bx.cell 6, h.bs.cell 0, h.bs.cell 1, h⟩

set_option maxRecDepth 100000 in
set_option maxHeartbeats 8000000 in
theorem r12_Carve (m : Sp.Spc) (hm : Sp.WF m) (hl : m.L.length ≤ 1000000) (vL : Value) (k a b : Int) (w : World) (hv : SlR w 4 encBk vL m.L) :
    Calls Try.prog 28 #[.agg (sA m vL), .int .i64 k, .agg #[.int .i64 a, .int .i64 b]] w (RetSE vL (Sp.carveR m k (a, b)) w) := by
  have HV := Lib.hid hv
  have H0 := Lib.hid (QC.first hv a b)
  have LF := Lib.hid fun (W : World) (h : QC w W m vL a b) => r12_Left m hm hl 0 vL W h.U.rd
  have MY := Lib.hid fun W => r12_may a b W
  have hll := Sp.left_len hm 0
  have HH := Lib.hid fun (v : Value) (W : World) (h : SlR W 2 encSp v (Sp.leftR m 0)) => ref_Has (Sp.leftR m 0) (a, b) v W (by omega) h
  have hat := hm.at_ k
  obtain ⟨p, cap, rfl, hc1, hc2, hR⟩ := hv
  clear hR
  obtain ⟨⟨x1, y1⟩, ⟨x2, y2⟩, L⟩ := m
  simp only at hl hc1 HV
  simp only [sA, Sp.spc0] at H0 LF ⊢
  obtain ⟨b0, b1, b2, b3, b4, b5, b6⟩ := H0.out.U.cs
  by_cases hk : k < 1 ∨ 2 < k
  · have hr : Sp.carveR ⟨(x1, y1), (x2, y2), L⟩ k (a, b) = (⟨(x1, y1), (x2, y2), L⟩, 1) := by unfold Sp.carveR; exact if_pos hk
    rw [hr]
    have HS := Lib.hid (H0.out.set ⟨(x1, y1), (x2, y2), L⟩ (.slice p L.length cap))
    clear hr LF MY HH hat hll
    have hk2 : (k < 1 ∧ k < 1) ∨ (¬ k < 1 ∧ 2 < k) := by omega
    rcases hk2 with ⟨hk, _⟩ | ⟨hk, hk2⟩
    all_goals
      go_enter Try.func28, Try.ntmps28
      go_wp2_with (refine wpList_store_row rfl _ _ _ rfl (w.heap.size + 2) (sA ⟨(x1, y1), (x2, y2), L⟩ (.slice p L.length cap)) rfl rfl _ _ H0.out.bz infoS rfl (oneS _ _ _ _) ?_)
      exact bodyPost_ret (results_ct rfl _ _ _ _ _ _ _ rfl HS.out.2 Try.underlying31 rfl infoS) rfl ⟨_, rfl, HV.out.below HS.out.1 (Nat.le_refl _), NewV.refl _ _, HS.out.1⟩
  · have hk12 : k = 1 ∨ k = 2 := by omega
    obtain ⟨x, y, hxy⟩ : ∃ x y, Sp.Spc.at ⟨(x1, y1), (x2, y2), L⟩ k = (x, y) := ⟨_, _, rfl⟩
    rw [hxy] at hat
    have hx0 : x = 0 ∨ 0 < x := by
      rcases hat with h | h
      · cases h; exact Or.inl rfl
      · rw [Sp.owns_iff] at h; simp only at h; exact Or.inr (by omega)
    clear hat
    cases how : Sp.owns (a, b)
    · have hr : Sp.carveR ⟨(x1, y1), (x2, y2), L⟩ k (a, b) = (⟨(x1, y1), (x2, y2), L⟩, 40) := by unfold Sp.carveR; rw [if_neg hk, if_pos how]
      rw [hr]
      rw [how] at MY
      clear hr LF HH hll hxy hx0 how
      rcases hk12 with rfl | rfl
      all_goals
        clear hk
        go_enter Try.func28, Try.ntmps28
        go_wp2_with fail
        refine (MY.out _).mono ?_
        rintro e w1 ⟨rfl, hb1⟩
        have H1 := Lib.hid (H0.out.next hb1)
        have HS := Lib.hid (H1.out.set ⟨(x1, y1), (x2, y2), L⟩ (.slice p L.length cap))
        clear b0 b1 b2 b3 b4 b5 b6 hb1 H0
        obtain ⟨b0, b1, b2, b3, b4, b5, b6, -, -⟩ := H1.out.sq
        go_wp2_with (refine wpList_store_row rfl _ _ _ rfl (w.heap.size + 2) (sA ⟨(x1, y1), (x2, y2), L⟩ (.slice p L.length cap)) rfl rfl _ _ H1.out.bz infoS rfl (oneS _ _ _ _) ?_)
        exact bodyPost_ret (results_ct rfl _ _ _ _ _ _ _ rfl HS.out.2 Try.underlying31 rfl infoS) rfl ⟨_, rfl, HV.out.below HS.out.1 (Nat.le_refl _), NewV.refl _ _, HS.out.1⟩
    · rw [how] at MY
      rcases hx0 with hx | hx
      · have hd : Sp.carveR ⟨(x1, y1), (x2, y2), L⟩ k (a, b) = if Sp.has (Sp.leftR ⟨(x1, y1), (x2, y2), L⟩ 0) (a, b) = false then (⟨(x1, y1), (x2, y2), L⟩, 42) else (Sp.Spc.lay ⟨(x1, y1), (x2, y2), L⟩ k (a, b), 0) := by
          unfold Sp.carveR; rw [if_neg hk, if_neg (by rw [how]; simp), if_neg (by rw [hxy, hx]; simp)]
        rw [hd]
        clear hd how
        have LF' := Lib.hid fun (W : World) (h : QC w W ⟨(x1, y1), (x2, y2), L⟩ (.slice p L.length cap) a b) => LF.out W h
        generalize Sp.leftR ⟨(x1, y1), (x2, y2), L⟩ 0 = lf at LF LF' HH hll ⊢
        rcases hk12 with rfl | rfl
        all_goals
          first
            | (have e : x1 = x := congrArg Prod.fst hxy; have hxd : decide (0 < x1) = false := by (rw [e]; simp; omega))
            | (have e : x2 = x := congrArg Prod.fst hxy; have hxd : decide (0 < x2) = false := by (rw [e]; simp; omega))
          clear hk hxy hx e
          cases hh : Sp.has lf (a, b)
          all_goals
            rw [hh] at HH
            clear hh LF
            go_enter Try.func28, Try.ntmps28
            go_wp2_with fail
            refine (MY.out _).mono ?_
            rintro e w1 ⟨rfl, hb1⟩
            have H1 := Lib.hid (H0.out.next hb1)
            clear b0 b1 b2 b3 b4 b5 b6 hb1 H0
            obtain ⟨b0, b1, b2, b3, b4, b5, b6, s0, s1⟩ := H1.out.sq
            go_wp2_with fail
            clear b0 b1 b2 b3 b4 b5 b6 s0 s1 hxd
            have hss := H1.out.sq2
            go_region_held3 (fun W => SQ2 w x1 y1 x2 y2 L (.slice p L.length cap) a b W)
              (first
                | exact QC.sq2 (by assumption)
                | (go_split_ands; exact QC.sq2 (by assumption))
                | (go_split_ands; exact QC.sq2 (QC.drew (by assumption))))
              (first
                | (go_at_call 54; go_split_ands; refine (HH.out _ _ (by first | exact hn2 | exact hn2.drew)).mono ?_; rintro e w3 ⟨rfl, hb3⟩; have hst3 := QC.next (w := w) (vL := .slice p L.length cap) (a := a) (b := b) (by assumption) hb3)
                | (go_at_call 35; go_split_ands; refine (LF'.out _ (by assumption)).mono ?_; rintro e w2 ⟨v2, rfl, hn2, hb2⟩; have hst2 := QC.next (w := w) (vL := .slice p L.length cap) (a := a) (b := b) (by assumption) hb2))
        · have HX := Lib.hid hst3
          have HS := Lib.hid (HX.out.set ⟨(x1, y1), (x2, y2), L⟩ (.slice p L.length cap))
          clear hst2 hst3 hn2 hb2 hb3
          obtain ⟨b0, b1, b2, b3, b4, b5, b6, s0, s1⟩ := HX.out.sq
          go_wp2_with (refine wpList_store_row rfl _ _ _ rfl (w.heap.size + 2) (sA ⟨(x1, y1), (x2, y2), L⟩ (.slice p L.length cap)) rfl rfl _ _ HX.out.bz infoS rfl (oneS _ _ _ _) ?_)
          exact bodyPost_ret (results_ct rfl _ _ _ _ _ _ _ rfl HS.out.2 Try.underlying31 rfl infoS) rfl ⟨_, rfl, HV.out.below HS.out.1 (Nat.le_refl _), NewV.refl _ _, HS.out.1⟩
        · have HX := Lib.hid hst3
          have hs := hst3
          have HY : Hid (QC w ((w3.setCell ⟨w.heap.size, 2, none⟩ (.int .i64 a)).setCell ⟨w.heap.size, 3, none⟩ (.int .i64 b)) ⟨(a, b), (x2, y2), L⟩ (.slice p L.length cap) a b) := Lib.hid
            ⟨⟨HV.out.below ((hs.U.bel.setCell (Nat.le_refl _) _).setCell (Nat.le_refl _) _) (Nat.le_refl _), (hs.U.bx.set 2 _).set 3 _, (hs.U.bel.setCell (Nat.le_refl _) _).setCell (Nat.le_refl _) _⟩, (hs.bs.other _ _ (by simp)).other _ _ (by simp), (hs.bz.other _ _ (by simp)).other _ _ (by simp)⟩
          have HS2 := Lib.hid (HY.out.set ⟨(a, b), (x2, y2), L⟩ (.slice p L.length cap))
          have g0 := HX.out.U.bx.frozen' 2
          have g1 := HX.out.U.bx.frozen' 3
          clear hst2 hst3 hn2 hb2 hb3 hs
          obtain ⟨b0, b1, b2, b3, b4, b5, b6, s0, s1⟩ := HX.out.sq
          go_wp2_with (refine wpList_store_row rfl _ _ _ rfl (w.heap.size + 2) (sA ⟨(a, b), (x2, y2), L⟩ (.slice p L.length cap)) rfl rfl _ _ HY.out.bz infoS rfl (oneS _ _ _ _) ?_)
          exact bodyPost_ret (results_ct rfl _ _ _ _ _ _ _ rfl HS2.out.2 Try.underlying31 rfl infoS) rfl ⟨_, rfl, HV.out.below HS2.out.1 (Nat.le_refl _), NewV.refl _ _, HS2.out.1⟩
        · have HX := Lib.hid hst3
          have HS := Lib.hid (HX.out.set ⟨(x1, y1), (x2, y2), L⟩ (.slice p L.length cap))
          clear hst2 hst3 hn2 hb2 hb3
          obtain ⟨b0, b1, b2, b3, b4, b5, b6, s0, s1⟩ := HX.out.sq
          go_wp2_with (refine wpList_store_row rfl _ _ _ rfl (w.heap.size + 2) (sA ⟨(x1, y1), (x2, y2), L⟩ (.slice p L.length cap)) rfl rfl _ _ HX.out.bz infoS rfl (oneS _ _ _ _) ?_)
          exact bodyPost_ret (results_ct rfl _ _ _ _ _ _ _ rfl HS.out.2 Try.underlying31 rfl infoS) rfl ⟨_, rfl, HV.out.below HS.out.1 (Nat.le_refl _), NewV.refl _ _, HS.out.1⟩
        · have HX := Lib.hid hst3
          have hs := hst3
          have HY : Hid (QC w ((w3.setCell ⟨w.heap.size, 4, none⟩ (.int .i64 a)).setCell ⟨w.heap.size, 5, none⟩ (.int .i64 b)) ⟨(x1, y1), (a, b), L⟩ (.slice p L.length cap) a b) := Lib.hid
            ⟨⟨HV.out.below ((hs.U.bel.setCell (Nat.le_refl _) _).setCell (Nat.le_refl _) _) (Nat.le_refl _), (hs.U.bx.set 4 _).set 5 _, (hs.U.bel.setCell (Nat.le_refl _) _).setCell (Nat.le_refl _) _⟩, (hs.bs.other _ _ (by simp)).other _ _ (by simp), (hs.bz.other _ _ (by simp)).other _ _ (by simp)⟩
          have HS2 := Lib.hid (HY.out.set ⟨(x1, y1), (a, b), L⟩ (.slice p L.length cap))
          have g0 := HX.out.U.bx.frozen' 4
          have g1 := HX.out.U.bx.frozen' 5
          clear hst2 hst3 hn2 hb2 hb3 hs
          obtain ⟨b0, b1, b2, b3, b4, b5, b6, s0, s1⟩ := HX.out.sq
          go_wp2_with (refine wpList_store_row rfl _ _ _ rfl (w.heap.size + 2) (sA ⟨(x1, y1), (a, b), L⟩ (.slice p L.length cap)) rfl rfl _ _ HY.out.bz infoS rfl (oneS _ _ _ _) ?_)
          exact bodyPost_ret (results_ct rfl _ _ _ _ _ _ _ rfl HS2.out.2 Try.underlying31 rfl infoS) rfl ⟨_, rfl, HV.out.below HS2.out.1 (Nat.le_refl _), NewV.refl _ _, HS2.out.1⟩
      · have hr : Sp.carveR ⟨(x1, y1), (x2, y2), L⟩ k (a, b) = (⟨(x1, y1), (x2, y2), L⟩, 32) := by
          unfold Sp.carveR; rw [if_neg hk, if_neg (by rw [how]; simp), if_pos (by rw [hxy]; simp only [ne_eq]; omega)]
        rw [hr]
        have hxd : decide (0 < x) = true := by simpa using hx
        clear hr LF HH hll how hx
        rcases hk12 with rfl | rfl
        all_goals
          cases hxy
          clear hk
          go_enter Try.func28, Try.ntmps28
          go_wp2_with fail
          refine (MY.out _).mono ?_
          rintro e w1 ⟨rfl, hb1⟩
          have H1 := Lib.hid (H0.out.next hb1)
          have HS := Lib.hid (H1.out.set ⟨(x1, y1), (x2, y2), L⟩ (.slice p L.length cap))
          clear b0 b1 b2 b3 b4 b5 b6 hb1 H0
          obtain ⟨b0, b1, b2, b3, b4, b5, b6, -, -⟩ := H1.out.sq
          go_wp2_with (refine wpList_store_row rfl _ _ _ rfl (w.heap.size + 2) (sA ⟨(x1, y1), (x2, y2), L⟩ (.slice p L.length cap)) rfl rfl _ _ H1.out.bz infoS rfl (oneS _ _ _ _) ?_)
          exact bodyPost_ret (results_ct rfl _ _ _ _ _ _ _ rfl HS.out.2 Try.underlying31 rfl infoS) rfl ⟨_, rfl, HV.out.below HS.out.1 (Nat.le_refl _), NewV.refl _ _, HS.out.1⟩
end Go.Proofs.Ytbeombmblifohaa
