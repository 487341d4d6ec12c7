/- The space package: Carve. -/
import Derived.Test.YtbeombmblifohaaSpcFree
namespace Go.Proofs.Ytbeombmblifohaa
set_option linter.unusedVariables false
set_option linter.unusedSimpArgs false
open Go.RowKit Go.Shelf Go.Proofs

/-- Carve and Close, between two calls: the space, a span's box x, and what has turned since w -/
structure CU (w W : World) (g : Nat) (r : Option Nat) (F : Int → List Sp.S) (V : Int → Value) (a1 a2 : Sp.S) (L : List Sp.Bk) (vb : Value) (x : Nat) (a b : Int) : Prop where
  G : SpcG W g r F V a1 a2 L vb
  bs : Blk W x 27 #[.int .i64 a, .int .i64 b]
  frm : Frm g r w W
section
variable {w W : World} {g : Nat} {r : Option Nat} {F : Int → List Sp.S} {V : Int → Value} {a1 a2 : Sp.S} {L : List Sp.Bk} {vb : Value} {x : Nat} {a b : Int}
theorem CU.next (h : CU w W g r F V a1 a2 L vb x a b) {W' : World} (hb : Below W.heap.size W W') : CU w W' g r F V a1 a2 L vb x a b :=
  ⟨h.G.below hb, h.bs.below hb h.bs.lt, h.frm.trans (Frm.of_below hb) (NewRow.refl _ _)⟩
theorem CU.drew (h : CU w W g r F V a1 a2 L vb x a b) : CU w W.drew g r F V a1 a2 L vb x a b := h.next (Below.refl _ _).drew
theorem CU.put (h : CU w W g r F V a1 a2 L vb x a b) {k : Int} (h0 : 0 ≤ k) (h2 : k ≤ 2) {l : List Sp.S} {W1 : World} {v : Value} (ho : W1.ownsRow W.heap.size 27 2 v l.length (flat encSp l)) (hb : Below W.heap.size W W1) (hg : g < w.heap.size) (hx : x ≠ g) :
    CU w (W1.setCell ⟨g, k.toNat, none⟩ v) g r (upd F k l) (upd V k v) a1 a2 L vb x a b := by
  have hn := h.next hb
  exact ⟨hn.G.put h0 h2 ho (Nat.lt_of_lt_of_le hg h.frm.size) (fun b hb => (h.G.rowlt b hb).2), hn.bs.other _ _ hx, hn.frm.trans (Frm.setCell g r W1 _ _) (NewRow.refl _ _)⟩
theorem CU.lay (h : CU w W g r F V a1 a2 L vb x a b) {k : Int} (hk : k = 1 ∨ k = 2) (c d : Int) (hx : x ≠ g) :
    CU w ((W.setCell ⟨g, 3 + k.toNat * 2, none⟩ (.int .i64 c)).setCell ⟨g, 3 + k.toNat * 2 + 1, none⟩ (.int .i64 d)) g r F V (if k = 1 then (c, d) else a1) (if k = 1 then a2 else (c, d)) L vb x a b :=
  ⟨h.G.lay hk c d, (h.bs.other _ _ hx).other _ _ hx, (h.frm.trans (Frm.setCell g r W _ _) (NewRow.refl _ _)).trans (Frm.setCell g r _ _ _) (NewRow.refl _ _)⟩
end
abbrev SCU (x : Nat) (a b : Int) (W : World) : Prop := W.cell? ⟨x, 0, none⟩ = some (.int .i64 a) ∧ W.cell? ⟨x, 1, none⟩ = some (.int .i64 b)
theorem CU.scu {w W : World} {g : Nat} {r : Option Nat} {F : Int → List Sp.S} {V : Int → Value} {a1 a2 : Sp.S} {L : List Sp.Bk} {vb : Value} {x : Nat} {a b : Int} (h : CU w W g r F V a1 a2 L vb x a b) : SCU x a b W := ⟨h.bs.cell 0, h.bs.cell 1⟩
abbrev SCV (g x : Nat) (a b : Int) (v : Value) (W : World) : Prop := W.cell? ⟨x, 0, none⟩ = some (.int .i64 a) ∧ W.cell? ⟨x, 1, none⟩ = some (.int .i64 b) ∧ W.cell? ⟨g, 0, none⟩ = some v
theorem CU.scv {w W : World} {g : Nat} {r : Option Nat} {F : Int → List Sp.S} {V : Int → Value} {a1 a2 : Sp.S} {L : List Sp.Bk} {vb : Value} {x : Nat} {a b : Int} (h : CU w W g r F V a1 a2 L vb x a b) : SCV g x a b (V 0) W := ⟨h.bs.cell 0, h.bs.cell 1, h.G.blk.cell 0⟩
/-- the slices that stand in the end -/
theorem Old.of_upd {w W : World} {g : Nat} {r : Option Nat} {F : Int → List Sp.S} {V V' : Int → Value} {a1 a2 : Sp.S} {L : List Sp.Bk} {vb : Value} (hG : SpcG W g r F V' a1 a2 L vb) (hV : ∀ j : Int, 0 ≤ j → j ≤ 2 → w.cell? ⟨g, j.toNat, none⟩ = some (V j)) (hn : ∀ j : Int, 0 ≤ j → j ≤ 2 → V' j = V j ∨ ∀ a n c, V' j = .slice (some a) n c → w.heap.size ≤ a.block) : Old g w W := fun j hj q n d hd => by
  have hcj := hG.cell (k := (j : Int)) (by omega) (by omega)
  rw [Int.toNat_natCast, hd] at hcj
  rcases hn j (by omega) (by omega) with h | h
  · refine Or.inr ⟨j, q, n, d, hj, ?_, rfl⟩
    have := hV j (by omega) (by omega)
    rw [Int.toNat_natCast, ← h, ← Option.some.inj hcj] at this
    exact this
  · exact Or.inl (h q n d (Option.some.inj hcj).symm)
set_option maxRecDepth 100000 in
set_option maxHeartbeats 8000000 in
theorem spc_Carve (g : Nat) (r : Option Nat) (m : Sp.Spc) (hm : Sp.WF m) (k a b : Int) (w : World) (h : SpcR w g r m) :
    Calls Try.prog 25 #[.pointer (some ⟨g, 0, none⟩), .int .i64 k, .agg #[.int .i64 a, .int .i64 b]] w (RetE g r (Sp.carveR m k (a, b)) w) := by
  have HS := Lib.hid h
  have hgl := h.lt
  have IS := Lib.hid fun W => spc_is g k W
  have AR := Lib.hid fun W h => spc_Area' g k m hm r W h
  have OW := Lib.hid fun W => spc_owns a b W
  obtain ⟨V, vb, hG⟩ := SpcG.of h
  have HVC := Lib.hid fun (j : Int) (j0 : 0 ≤ j) (j2 : j ≤ 2) => hG.cell j0 j2
  have P0 : Hid (CU w (w.alloc (.cells #[.int .i64 a, .int .i64 b] 27)) g r (Sp.leftR m) V m.a1 m.a2 m.L vb w.heap.size a b) := Lib.hid ⟨hG.below (belowA w _), Blk.new _ _ _, Frm.of_below (belowA w _)⟩
  by_cases hk : k < 1 ∨ 2 < k
  · have hr : Sp.carveR m k (a, b) = (m, 1) := by unfold Sp.carveR; rw [if_pos hk]
    have e : (decide (0 < k) && decide (k < 3)) = false := by simp; omega
    rw [hr]
    rw [e] at IS
    clear e hr hk hG h
    go_enter Try.func25, Try.ntmps25
    go_wp2_with fail
    refine (IS.out _).mono ?_
    rintro e w1 ⟨rfl, hw1⟩
    subst hw1
    go_wp2_with fail
    go_ret
    exact ⟨rfl, Left.same HS.out (belowA w _)⟩
  · have e : (decide (0 < k) && decide (k < 3)) = true := by simp; omega
    rw [e] at IS
    clear e
    obtain ⟨ax, ay, ai, har, hai⟩ : ∃ ax ay ai, Sp.areaR m k = ((ax, ay), ai) ∧ (ai = true ↔ (m.at k).1 ≠ 0) := by
      by_cases hz : (m.at k).1 = 0
      · exact ⟨0, 0, false, by unfold Sp.areaR; rw [if_pos (by omega)], by simp [hz]⟩
      · exact ⟨(m.at k).1, (m.at k).2, true, by unfold Sp.areaR; rw [if_neg (by omega)], by simp [hz]⟩
    rw [har] at AR
    clear har
    cases how : Sp.owns (a, b)
    · have hr : Sp.carveR m k (a, b) = (m, 40) := by unfold Sp.carveR; rw [if_neg hk, if_pos how]
      rw [hr]
      rw [how] at OW
      clear hr hk how hai hG h
      go_enter Try.func25, Try.ntmps25
      go_wp2_with fail
      refine (IS.out _).mono ?_
      rintro e w1 ⟨rfl, hw1⟩
      subst hw1
      go_wp2_with fail
      refine (AR.out _ (P0.out.G.spcR fun _ _ _ => rfl)).mono ?_
      rintro e w1 ⟨rfl, hb1⟩
      have P1 := (P0.out.next hb1).next (belowA _ (.cells #[.int .i64 ax, .int .i64 ay] 27))
      have HP1 := Lib.hid P1
      have c0 := fun o => ((P0.out.next hb1).bs.alloc o).cell 0
      have c1 := fun o => ((P0.out.next hb1).bs.alloc o).cell 1
      have HB1 := Lib.hid ((belowA w (.cells #[.int .i64 a, .int .i64 b] 27)).trans (hb1.mono (by simp)))
      simp only [List.getElem?_toArray, List.getElem?_cons_zero, List.getElem?_cons_succ] at c0 c1
      clear hb1 P1
      go_wp2_with fail
      refine (OW.out _).mono ?_
      rintro e w2 ⟨rfl, hb2⟩
      have HB2 := Lib.hid ((HB1.out.alloc HB1.out.size (.cells #[.int .i64 ax, .int .i64 ay] 27)).trans (hb2.mono (by have := HB1.out.size; simp; omega)))
      clear hb2
      go_wp2_with fail
      go_ret
      exact ⟨rfl, Left.same HS.out HB2.out⟩
    · rw [how] at OW
      have hown := how
      clear how
      cases ai
      · have hz : (m.at k).1 = 0 := by
          by_cases hz : (m.at k).1 = 0
          · exact hz
          · have := hai.2 hz; cases this
        have hd : Sp.carveR m k (a, b) = if Sp.has (Sp.leftR m 0) (a, b) = false then (m, 42) else (m.lay k (a, b), 0) := by unfold Sp.carveR; rw [if_neg hk, if_neg (by rw [hown]; simp), if_neg (by rw [hz]; simp)]
        have hll := Sp.left_len hm 0
        have HA := Lib.hid fun (W : World) (h : SlR W 2 encSp (V 0) (Sp.leftR m 0)) => spans_Has (Sp.leftR m 0) (by omega) (a, b) (V 0) W h
        rw [hd]
        cases hh : Sp.has (Sp.leftR m 0) (a, b)
        all_goals rw [hh] at HA
        · rw [if_pos rfl]
          clear hd hh hz hai hown hG h hk hll
          go_enter Try.func25, Try.ntmps25
          go_wp2_with fail
          refine (IS.out _).mono ?_
          rintro e w1 ⟨rfl, hw1⟩
          subst hw1
          go_wp2_with fail
          refine (AR.out _ (P0.out.G.spcR fun _ _ _ => rfl)).mono ?_
          rintro e w1 ⟨rfl, hb1⟩
          have c0 := fun o => ((P0.out.next hb1).bs.alloc o).cell 0
          have c1 := fun o => ((P0.out.next hb1).bs.alloc o).cell 1
          have HB1 := Lib.hid ((belowA w (.cells #[.int .i64 a, .int .i64 b] 27)).trans (hb1.mono (by simp)))
          have P1 := (P0.out.next hb1).next (belowA _ (.cells #[.int .i64 ax, .int .i64 ay] 27))
          have HP1 := Lib.hid P1
          simp only [List.getElem?_toArray, List.getElem?_cons_zero, List.getElem?_cons_succ] at c0 c1
          clear hb1 P1
          go_wp2_with fail
          refine (OW.out _).mono ?_
          rintro e w2 ⟨rfl, hb2⟩
          have HP2 := Lib.hid (HP1.out.next hb2)
          have HB2 := Lib.hid ((HB1.out.alloc HB1.out.size (.cells #[.int .i64 ax, .int .i64 ay] 27)).trans (hb2.mono (by have := HB1.out.size; simp; omega)))
          clear hb2 HP1 c0 c1
          go_wp2_with fail
          have hst := HP2.out
          go_region_held3 (fun W => SCV g w.heap.size a b (V 0) W)
            (first
              | exact CU.scv (by assumption)
              | (go_split_ands; exact CU.scv (by assumption))
              | (go_split_ands; exact CU.scv (CU.drew (by assumption))))
            (first
              | (go_at_call 48; refine (HA.out _ (by first | exact (HP2.out.drew.G.left 0 (by omega) (by omega)).1 | exact (HP2.out.G.left 0 (by omega) (by omega)).1)).mono ?_; rintro e w3 ⟨rfl, hb3⟩; have hst3 := (by first | exact HP2.out.drew.next hb3 | exact HP2.out.next hb3)))
          have HB3 := Lib.hid (HB2.out.trans (by first | exact hb3.mono HB2.out.size | exact ((Below.refl _ _).drew.trans hb3).mono HB2.out.size))
          clear hb3 hst hst3
          go_wp2_with fail
          go_ret
          exact ⟨rfl, Left.same HS.out HB3.out⟩
        · rw [if_neg (by simp)]
          have hk12 : k = 1 ∨ k = 2 := by omega
          have HOK := Lib.hid (Sp.carve_ok hm hk12 hz hh)
          have hllk := Sp.left_len hm k
          clear hd hh hz hai hown hG h hk
          rcases hk12 with rfl | rfl
          · go_enter Try.func25, Try.ntmps25
            go_wp2_with fail
            refine (IS.out _).mono ?_
            rintro e w1 ⟨rfl, hw1⟩
            subst hw1
            go_wp2_with fail
            refine (AR.out _ (P0.out.G.spcR fun _ _ _ => rfl)).mono ?_
            rintro e w1 ⟨rfl, hb1⟩
            have c0 := fun o => ((P0.out.next hb1).bs.alloc o).cell 0
            have c1 := fun o => ((P0.out.next hb1).bs.alloc o).cell 1
            have HB1 := Lib.hid ((belowA w (.cells #[.int .i64 a, .int .i64 b] 27)).trans (hb1.mono (by simp)))
            have P1 := (P0.out.next hb1).next (belowA _ (.cells #[.int .i64 ax, .int .i64 ay] 27))
            have HP1 := Lib.hid P1
            simp only [List.getElem?_toArray, List.getElem?_cons_zero, List.getElem?_cons_succ] at c0 c1
            clear hb1 P1
            go_wp2_with fail
            refine (OW.out _).mono ?_
            rintro e w2 ⟨rfl, hb2⟩
            have HP2 := Lib.hid (HP1.out.next hb2)
            have HB2 := Lib.hid ((HB1.out.alloc HB1.out.size (.cells #[.int .i64 ax, .int .i64 ay] 27)).trans (hb2.mono (by have := HB1.out.size; simp; omega)))
            clear hb2 HP1 c0 c1
            go_wp2_with fail
            have hst := HP2.out
            go_region_held3 (fun W => SCV g w.heap.size a b (V 0) W)
              (first
                | exact CU.scv (by assumption)
                | (go_split_ands; exact CU.scv (by assumption))
                | (go_split_ands; exact CU.scv (CU.drew (by assumption))))
              (first
                | (go_at_call 48; refine (HA.out _ (by first | exact (HP2.out.drew.G.left 0 (by omega) (by omega)).1 | exact (HP2.out.G.left 0 (by omega) (by omega)).1)).mono ?_; rintro e w3 ⟨rfl, hb3⟩; have hst3 := (by first | exact HP2.out.drew.next hb3 | exact HP2.out.next hb3)))
            have P3 := Lib.hid hst3
            have b0 := hst3.bs.cell 0
            have b1 := hst3.bs.cell 1
            have d5 := hst3.G.blk.cell 5
            have d6 := hst3.G.blk.cell 6
            have d7 := hst3.G.blk.cell 7
            have d8 := hst3.G.blk.cell 8
            have f5 := hst3.G.blk.frozen' 5
            have f6 := hst3.G.blk.frozen' 6
            have f7 := hst3.G.blk.frozen' 7
            have f8 := hst3.G.blk.frozen' 8
            simp only [spcG, List.getElem?_toArray, List.getElem?_cons_zero, List.getElem?_cons_succ] at b0 b1 d5 d6 d7 d8
            have hx : w.heap.size ≠ g := by omega
            clear hb3 hst hst3 HB2 HP2
            go_wp2_with fail
            go_region_with (fail)
            have P4 : CU w (((w3.setCell ⟨g, 5, none⟩ (.int .i64 a)).setCell ⟨g, 6, none⟩ (.int .i64 b)).drew) g r (Sp.leftR m) V (if (1 : Int) = 1 then ((a, b) : Sp.S) else m.a1) (if (1 : Int) = 1 then m.a2 else ((a, b) : Sp.S)) m.L vb w.heap.size a b := (P3.out.lay (k := 1) (Or.inl rfl) a b hx).drew
            generalize (((w3.setCell ⟨g, 5, none⟩ (.int .i64 a)).setCell ⟨g, 6, none⟩ (.int .i64 b)).drew) = w4 at P4 ⊢
            have HP4 := Lib.hid P4
            have FC := Lib.hid fun (W : World) (hP : CU w W g r (Sp.leftR m) V (if (1 : Int) = 1 then ((a, b) : Sp.S) else m.a1) (if (1 : Int) = 1 then m.a2 else ((a, b) : Sp.S)) m.L vb w.heap.size a b) => free_cut g 0 (by omega) (by omega) (V 0) (Sp.leftR m 0) a b W (hP.G.cell (by omega) (by omega)) (hP.G.blk.frozen' _) (hP.G.left 0 (by omega) (by omega)).1 (by omega)
            clear b0 b1 d5 d6 d7 d8 f5 f6 f7 f8 P3
            go_wp2_with fail
            have hst4 := P4
            go_region_held3 (fun W => SCU w.heap.size a b W)
              (first
                | exact CU.scu (by assumption)
                | (go_split_ands; exact CU.scu (by assumption))
                | (go_split_ands; exact CU.scu (CU.drew (by assumption))))
              (first
                | (go_at_call 49; refine (FC.out _ (by first | exact HP4.out.drew | exact HP4.out)).mono ?_; rintro e w5 ⟨rfl, v5, W5, ho5, hb5, hw5⟩; have P5 := (by first | exact CU.put (k := 0) (l := Sp.cut (Sp.leftR m 0) (a, b)) HP4.out.drew (by omega) (by omega) ho5 hb5 hgl hx | exact CU.put (k := 0) (l := Sp.cut (Sp.leftR m 0) (a, b)) HP4.out (by omega) (by omega) ho5 hb5 hgl hx); rw [← hw5] at P5; clear hw5))
            have HP5 := Lib.hid P5
            have HV5 : Hid (∀ a n c, v5 = .slice (some a) n c → w.heap.size ≤ a.block) := Lib.hid fun q n c e => by
              have h1 := (ho5.lt q.block (by rw [e]; rfl)).1
              have h2 := HP4.out.frm.size
              simp at h1
              omega
            have FA := Lib.hid fun (W : World) (hP : CU w W g r (upd (Sp.leftR m) 0 (Sp.cut (Sp.leftR m 0) (a, b))) (upd V 0 v5) (if (1 : Int) = 1 then ((a, b) : Sp.S) else m.a1) (if (1 : Int) = 1 then m.a2 else ((a, b) : Sp.S)) m.L vb w.heap.size a b) => free_add g 1 (by omega) (by omega) (V 1) (Sp.leftR m 1) a b W (hP.G.cell (by omega) (by omega)) (hP.G.blk.frozen' _) (hP.G.left 1 (by omega) (by omega)).1 (by omega)
            clear hst4 P4 ho5 hb5 FC
            go_wp2_with fail
            have hst5 := P5
            go_region_held3 (fun W => SCU w.heap.size a b W)
              (first
                | exact CU.scu (by assumption)
                | (go_split_ands; exact CU.scu (by assumption))
                | (go_split_ands; exact CU.scu (CU.drew (by assumption))))
              (first
                | (go_at_call 27; refine (FA.out _ (by first | exact HP5.out.drew | exact HP5.out)).mono ?_; rintro e w6 ⟨rfl, v6, W6, ho6, hb6, hw6⟩; have P6 := (by first | exact CU.put (k := 1) (l := Sp.add (Sp.leftR m 1) (a, b)) HP5.out.drew (by omega) (by omega) ho6 hb6 hgl hx | exact CU.put (k := 1) (l := Sp.add (Sp.leftR m 1) (a, b)) HP5.out (by omega) (by omega) ho6 hb6 hgl hx); rw [← hw6] at P6; clear hw6))
            have HP6 := Lib.hid P6
            have HV6 : Hid (∀ a n c, v6 = .slice (some a) n c → w.heap.size ≤ a.block) := Lib.hid fun q n c e => by
              have h1 := (ho6.lt q.block (by rw [e]; rfl)).1
              have h2 := HP5.out.frm.size
              simp at h1
              omega
            clear hst5 P5 P6 ho6 hb6 FA
            go_wp2_with fail
            go_ret
            refine ⟨rfl, r, SpcG.spcR (m := m.lay 1 (a, b)) HP6.out.G fun j j0 j2 => ?_, NewRow.refl _ _, HP6.out.frm, Old.of_upd HP6.out.G HVC.out fun j j0 j2 => ?_⟩
            · obtain ⟨-, q1, q2, q3⟩ := HOK.out
              have : j = 0 ∨ j = 1 ∨ j = 2 := by omega
              rcases this with rfl | rfl | rfl
              · exact q1.symm
              · first | exact q2.symm | exact q3.symm
              · first | exact q2.symm | exact q3.symm
            · have : j = 0 ∨ j = 1 ∨ j = 2 := by omega
              rcases this with rfl | rfl | rfl
              all_goals first | exact Or.inl rfl | exact Or.inr HV5.out | exact Or.inr HV6.out
          · go_enter Try.func25, Try.ntmps25
            go_wp2_with fail
            refine (IS.out _).mono ?_
            rintro e w1 ⟨rfl, hw1⟩
            subst hw1
            go_wp2_with fail
            refine (AR.out _ (P0.out.G.spcR fun _ _ _ => rfl)).mono ?_
            rintro e w1 ⟨rfl, hb1⟩
            have c0 := fun o => ((P0.out.next hb1).bs.alloc o).cell 0
            have c1 := fun o => ((P0.out.next hb1).bs.alloc o).cell 1
            have HB1 := Lib.hid ((belowA w (.cells #[.int .i64 a, .int .i64 b] 27)).trans (hb1.mono (by simp)))
            have P1 := (P0.out.next hb1).next (belowA _ (.cells #[.int .i64 ax, .int .i64 ay] 27))
            have HP1 := Lib.hid P1
            simp only [List.getElem?_toArray, List.getElem?_cons_zero, List.getElem?_cons_succ] at c0 c1
            clear hb1 P1
            go_wp2_with fail
            refine (OW.out _).mono ?_
            rintro e w2 ⟨rfl, hb2⟩
            have HP2 := Lib.hid (HP1.out.next hb2)
            have HB2 := Lib.hid ((HB1.out.alloc HB1.out.size (.cells #[.int .i64 ax, .int .i64 ay] 27)).trans (hb2.mono (by have := HB1.out.size; simp; omega)))
            clear hb2 HP1 c0 c1
            go_wp2_with fail
            have hst := HP2.out
            go_region_held3 (fun W => SCV g w.heap.size a b (V 0) W)
              (first
                | exact CU.scv (by assumption)
                | (go_split_ands; exact CU.scv (by assumption))
                | (go_split_ands; exact CU.scv (CU.drew (by assumption))))
              (first
                | (go_at_call 48; refine (HA.out _ (by first | exact (HP2.out.drew.G.left 0 (by omega) (by omega)).1 | exact (HP2.out.G.left 0 (by omega) (by omega)).1)).mono ?_; rintro e w3 ⟨rfl, hb3⟩; have hst3 := (by first | exact HP2.out.drew.next hb3 | exact HP2.out.next hb3)))
            have P3 := Lib.hid hst3
            have b0 := hst3.bs.cell 0
            have b1 := hst3.bs.cell 1
            have d5 := hst3.G.blk.cell 5
            have d6 := hst3.G.blk.cell 6
            have d7 := hst3.G.blk.cell 7
            have d8 := hst3.G.blk.cell 8
            have f5 := hst3.G.blk.frozen' 5
            have f6 := hst3.G.blk.frozen' 6
            have f7 := hst3.G.blk.frozen' 7
            have f8 := hst3.G.blk.frozen' 8
            simp only [spcG, List.getElem?_toArray, List.getElem?_cons_zero, List.getElem?_cons_succ] at b0 b1 d5 d6 d7 d8
            have hx : w.heap.size ≠ g := by omega
            clear hb3 hst hst3 HB2 HP2
            go_wp2_with fail
            go_region_with (fail)
            have P4 : CU w (((w3.setCell ⟨g, 7, none⟩ (.int .i64 a)).setCell ⟨g, 8, none⟩ (.int .i64 b)).drew) g r (Sp.leftR m) V (if (2 : Int) = 1 then ((a, b) : Sp.S) else m.a1) (if (2 : Int) = 1 then m.a2 else ((a, b) : Sp.S)) m.L vb w.heap.size a b := (P3.out.lay (k := 2) (Or.inr rfl) a b hx).drew
            generalize (((w3.setCell ⟨g, 7, none⟩ (.int .i64 a)).setCell ⟨g, 8, none⟩ (.int .i64 b)).drew) = w4 at P4 ⊢
            have HP4 := Lib.hid P4
            have FC := Lib.hid fun (W : World) (hP : CU w W g r (Sp.leftR m) V (if (2 : Int) = 1 then ((a, b) : Sp.S) else m.a1) (if (2 : Int) = 1 then m.a2 else ((a, b) : Sp.S)) m.L vb w.heap.size a b) => free_cut g 0 (by omega) (by omega) (V 0) (Sp.leftR m 0) a b W (hP.G.cell (by omega) (by omega)) (hP.G.blk.frozen' _) (hP.G.left 0 (by omega) (by omega)).1 (by omega)
            clear b0 b1 d5 d6 d7 d8 f5 f6 f7 f8 P3
            go_wp2_with fail
            have hst4 := P4
            go_region_held3 (fun W => SCU w.heap.size a b W)
              (first
                | exact CU.scu (by assumption)
                | (go_split_ands; exact CU.scu (by assumption))
                | (go_split_ands; exact CU.scu (CU.drew (by assumption))))
              (first
                | (go_at_call 49; refine (FC.out _ (by first | exact HP4.out.drew | exact HP4.out)).mono ?_; rintro e w5 ⟨rfl, v5, W5, ho5, hb5, hw5⟩; have P5 := (by first | exact CU.put (k := 0) (l := Sp.cut (Sp.leftR m 0) (a, b)) HP4.out.drew (by omega) (by omega) ho5 hb5 hgl hx | exact CU.put (k := 0) (l := Sp.cut (Sp.leftR m 0) (a, b)) HP4.out (by omega) (by omega) ho5 hb5 hgl hx); rw [← hw5] at P5; clear hw5))
            have HP5 := Lib.hid P5
            have HV5 : Hid (∀ a n c, v5 = .slice (some a) n c → w.heap.size ≤ a.block) := Lib.hid fun q n c e => by
              have h1 := (ho5.lt q.block (by rw [e]; rfl)).1
              have h2 := HP4.out.frm.size
              simp at h1
              omega
            have FA := Lib.hid fun (W : World) (hP : CU w W g r (upd (Sp.leftR m) 0 (Sp.cut (Sp.leftR m 0) (a, b))) (upd V 0 v5) (if (2 : Int) = 1 then ((a, b) : Sp.S) else m.a1) (if (2 : Int) = 1 then m.a2 else ((a, b) : Sp.S)) m.L vb w.heap.size a b) => free_add g 2 (by omega) (by omega) (V 2) (Sp.leftR m 2) a b W (hP.G.cell (by omega) (by omega)) (hP.G.blk.frozen' _) (hP.G.left 2 (by omega) (by omega)).1 (by omega)
            clear hst4 P4 ho5 hb5 FC
            go_wp2_with fail
            have hst5 := P5
            go_region_held3 (fun W => SCU w.heap.size a b W)
              (first
                | exact CU.scu (by assumption)
                | (go_split_ands; exact CU.scu (by assumption))
                | (go_split_ands; exact CU.scu (CU.drew (by assumption))))
              (first
                | (go_at_call 27; refine (FA.out _ (by first | exact HP5.out.drew | exact HP5.out)).mono ?_; rintro e w6 ⟨rfl, v6, W6, ho6, hb6, hw6⟩; have P6 := (by first | exact CU.put (k := 2) (l := Sp.add (Sp.leftR m 2) (a, b)) HP5.out.drew (by omega) (by omega) ho6 hb6 hgl hx | exact CU.put (k := 2) (l := Sp.add (Sp.leftR m 2) (a, b)) HP5.out (by omega) (by omega) ho6 hb6 hgl hx); rw [← hw6] at P6; clear hw6))
            have HP6 := Lib.hid P6
            have HV6 : Hid (∀ a n c, v6 = .slice (some a) n c → w.heap.size ≤ a.block) := Lib.hid fun q n c e => by
              have h1 := (ho6.lt q.block (by rw [e]; rfl)).1
              have h2 := HP5.out.frm.size
              simp at h1
              omega
            clear hst5 P5 P6 ho6 hb6 FA
            go_wp2_with fail
            go_ret
            refine ⟨rfl, r, SpcG.spcR (m := m.lay 2 (a, b)) HP6.out.G fun j j0 j2 => ?_, NewRow.refl _ _, HP6.out.frm, Old.of_upd HP6.out.G HVC.out fun j j0 j2 => ?_⟩
            · obtain ⟨-, q1, q2, q3⟩ := HOK.out
              have : j = 0 ∨ j = 1 ∨ j = 2 := by omega
              rcases this with rfl | rfl | rfl
              · exact q1.symm
              · first | exact q2.symm | exact q3.symm
              · first | exact q2.symm | exact q3.symm
            · have : j = 0 ∨ j = 1 ∨ j = 2 := by omega
              rcases this with rfl | rfl | rfl
              all_goals first | exact Or.inl rfl | exact Or.inr HV5.out | exact Or.inr HV6.out
      · have hz : (m.at k).1 ≠ 0 := hai.1 rfl
        have hr : Sp.carveR m k (a, b) = (m, 32) := by unfold Sp.carveR; rw [if_neg hk, if_neg (by rw [hown]; simp), if_pos hz]
        rw [hr]
        clear hr hk hown hai hz hG h
        go_enter Try.func25, Try.ntmps25
        go_wp2_with fail
        refine (IS.out _).mono ?_
        rintro e w1 ⟨rfl, hw1⟩
        subst hw1
        go_wp2_with fail
        refine (AR.out _ (P0.out.G.spcR fun _ _ _ => rfl)).mono ?_
        rintro e w1 ⟨rfl, hb1⟩
        have c0 := fun o => ((P0.out.next hb1).bs.alloc o).cell 0
        have c1 := fun o => ((P0.out.next hb1).bs.alloc o).cell 1
        have HB1 := Lib.hid ((belowA w (.cells #[.int .i64 a, .int .i64 b] 27)).trans (hb1.mono (by simp)))
        have P1 := (P0.out.next hb1).next (belowA _ (.cells #[.int .i64 ax, .int .i64 ay] 27))
        have HP1 := Lib.hid P1
        simp only [List.getElem?_toArray, List.getElem?_cons_zero, List.getElem?_cons_succ] at c0 c1
        clear hb1 P1
        go_wp2_with fail
        refine (OW.out _).mono ?_
        rintro e w2 ⟨rfl, hb2⟩
        have HP2 := Lib.hid (HP1.out.next hb2)
        have HB2 := Lib.hid ((HB1.out.alloc HB1.out.size (.cells #[.int .i64 ax, .int .i64 ay] 27)).trans (hb2.mono (by have := HB1.out.size; simp; omega)))
        clear hb2 HP1 c0 c1
        go_wp2_with fail
        go_ret
        exact ⟨rfl, Left.same HS.out HB2.out⟩
end Go.Proofs.Ytbeombmblifohaa
