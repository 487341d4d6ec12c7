/- The space package: Close. -/
import Derived.Test.YtbeombmblifohaaSpcCarve
namespace Go.Proofs.Ytbeombmblifohaa
set_option linter.unusedVariables false
set_option linter.unusedSimpArgs false
open Go.RowKit Go.Shelf Go.Proofs

/-- Close, between two calls: the area's box, too -/
structure KU (w W : World) (g : Nat) (r : Option Nat) (F : Int → List Sp.S) (V : Int → Value) (a1 a2 : Sp.S) (L : List Sp.Bk) (vb : Value) (x : Nat) (a b k : Int) : Prop where
  cu : CU w W g r F V a1 a2 L vb x a b
  kb : Blk W w.heap.size 3 #[.int .i64 k]
section
variable {w W : World} {g : Nat} {r : Option Nat} {F : Int → List Sp.S} {V : Int → Value} {a1 a2 : Sp.S} {L : List Sp.Bk} {vb : Value} {x : Nat} {a b q : Int}
theorem KU.next (h : KU w W g r F V a1 a2 L vb x a b q) {W' : World} (hb : Below W.heap.size W W') : KU w W' g r F V a1 a2 L vb x a b q := ⟨h.cu.next hb, h.kb.below hb h.kb.lt⟩
theorem KU.drew (h : KU w W g r F V a1 a2 L vb x a b q) : KU w W.drew g r F V a1 a2 L vb x a b q := h.next (Below.refl _ _).drew
theorem KU.put (h : KU w W g r F V a1 a2 L vb x a b q) {k : Int} (h0 : 0 ≤ k) (h2 : k ≤ 2) {l : List Sp.S} {W1 : World} {v : Value} (ho : W1.ownsRow W.heap.size 27 2 v l.length (flat encSp l)) (hb : Below W.heap.size W W1) (hg : g < w.heap.size) (hx : x ≠ g) :
    KU w (W1.setCell ⟨g, k.toNat, none⟩ v) g r (upd F k l) (upd V k v) a1 a2 L vb x a b q := ⟨h.cu.put h0 h2 ho hb hg hx, (h.kb.below hb h.kb.lt).other _ _ (show w.heap.size ≠ g by omega)⟩
theorem KU.lay (h : KU w W g r F V a1 a2 L vb x a b q) {k : Int} (hk : k = 1 ∨ k = 2) (c d : Int) (hx : x ≠ g) (hg : g < w.heap.size) :
    KU w ((W.setCell ⟨g, 3 + k.toNat * 2, none⟩ (.int .i64 c)).setCell ⟨g, 3 + k.toNat * 2 + 1, none⟩ (.int .i64 d)) g r F V (if k = 1 then (c, d) else a1) (if k = 1 then a2 else (c, d)) L vb x a b q :=
  ⟨h.cu.lay hk c d hx, (h.kb.other _ _ (show w.heap.size ≠ g by omega)).other _ _ (show w.heap.size ≠ g by omega)⟩
end
abbrev SKU (w : World) (x : Nat) (a b k : Int) (W : World) : Prop := W.cell? ⟨x, 0, none⟩ = some (.int .i64 a) ∧ W.cell? ⟨x, 1, none⟩ = some (.int .i64 b) ∧ W.cell? ⟨w.heap.size, 0, none⟩ = some (.int .i64 k)
theorem KU.sku {w W : World} {g : Nat} {r : Option Nat} {F : Int → List Sp.S} {V : Int → Value} {a1 a2 : Sp.S} {L : List Sp.Bk} {vb : Value} {x : Nat} {a b k : Int} (h : KU w W g r F V a1 a2 L vb x a b k) : SKU w x a b k W := ⟨h.cu.bs.cell 0, h.cu.bs.cell 1, h.kb.cell 0⟩
set_option maxRecDepth 100000 in
set_option maxHeartbeats 8000000 in
theorem spc_Close (g : Nat) (r : Option Nat) (m : Sp.Spc) (hm : Sp.WF m) (hl : m.L.length ≤ 1000) (k : Int) (w : World) (h : SpcR w g r m) :
    Calls Try.prog 26 #[.pointer (some ⟨g, 0, none⟩), .int .i64 k] w (RetE g r (Sp.closeR m k) w) := by
  have HS := Lib.hid h
  have hgl := h.lt
  have IS := Lib.hid fun W => spc_is g k W
  have AR := Lib.hid fun W h => spc_Area' g k m hm r W h
  obtain ⟨V, vb, hG⟩ := SpcG.of h
  have HVC := Lib.hid fun (j : Int) (j0 : 0 ≤ j) (j2 : j ≤ 2) => hG.cell j0 j2
  have P0 : Hid (SpcG (w.alloc (.cells #[.int .i64 k] 3)) g r (Sp.leftR m) V m.a1 m.a2 m.L vb ∧ Blk (w.alloc (.cells #[.int .i64 k] 3)) w.heap.size 3 #[.int .i64 k]) := Lib.hid ⟨hG.below (belowA w _), Blk.new _ _ _⟩
  by_cases hk : k < 1 ∨ 2 < k
  · have hr : Sp.closeR m k = (m, 1) := by unfold Sp.closeR; rw [if_pos hk]
    have e : (decide (0 < k) && decide (k < 3)) = false := by simp; omega
    rw [hr]
    rw [e] at IS
    clear e hr hk hG h
    go_enter Try.func26, Try.ntmps26
    go_wp2_with fail
    refine (IS.out _).mono ?_
    rintro e w1 ⟨rfl, hw1⟩
    subst hw1
    go_wp2_with fail
    go_ret
    exact ⟨rfl, Left.same HS.out (belowA w _)⟩
  · have e : (decide (0 < k) && decide (k < 3)) = true := by simp; omega
    rw [e] at IS
    clear e
    have hk12 : k = 1 ∨ k = 2 := by omega
    by_cases hz : (m.at k).1 = 0
    · have har : Sp.areaR m k = ((0, 0), false) := by unfold Sp.areaR; rw [if_pos (by omega)]
      have hr : Sp.closeR m k = (m, 31) := by unfold Sp.closeR; rw [if_neg hk, if_pos hz]
      rw [hr]
      rw [har] at AR
      clear hr har hz hk hG h
      go_enter Try.func26, Try.ntmps26
      go_wp2_with fail
      refine (IS.out _).mono ?_
      rintro e w1 ⟨rfl, hw1⟩
      subst hw1
      go_wp2_with fail
      refine (AR.out _ (P0.out.1.spcR fun _ _ _ => rfl)).mono ?_
      rintro e w1 ⟨rfl, hb1⟩
      have HB1 := Lib.hid ((belowA w (.cells #[.int .i64 k] 3)).trans (hb1.mono (by simp)))
      clear hb1
      go_wp2_with fail
      go_ret
      exact ⟨rfl, Left.same HS.out (HB1.out.alloc HB1.out.size _)⟩
    · have har : Sp.areaR m k = (m.at k, true) := by unfold Sp.areaR; rw [if_neg (by omega)]
      rw [har] at AR
      have hcl : Sp.closeR m k = if Sp.busyB m k = true then (m, 33) else (m.lay k (0, 0), 0) := by unfold Sp.closeR; rw [if_neg hk, if_neg hz]
      rw [hcl]
      have HOK := Lib.hid fun (hb : ∀ b ∈ m.L, b.area ≠ k) => Sp.close_ok hm hk12 hz hb
      have hll0 := Sp.left_len hm 0
      have hllk := Sp.left_len hm k
      have hf9 : w.cell? ⟨g, 9, none⟩ = some vb := hG.blk.cell 9
      generalize hat : m.at k = s at AR HOK
      obtain ⟨ax, ay⟩ := s
      have CF : Hid (∀ W, SlR W 4 encBk vb m.L → (∀ W', Below W.heap.size W W' → W'.cell? ⟨w.heap.size, 0, none⟩ = some (.int .i64 k)) → Calls Try.prog 50 #[vb, .func (.func 51) #[] #[.pointer (some ⟨w.heap.size, 0, none⟩)]] W fun e w' => e = .returned (.bool (Sp.busyB m k)) ∧ Below W.heap.size W w') := Lib.hid fun W hW hc =>
        containsBk_any 51 _ (fun b => decide (b.area = k)) m.L (by omega) vb W hW (enters_of Try.func51 (by kernel_rfl) rfl) fun W2 x hW2 => close_closure k w.heap.size x W2 (hc W2 hW2)
      clear har hcl hz hk hat h hG
      cases hbz : Sp.busyB m k
      all_goals rw [hbz] at CF
      · rw [if_neg (by simp)]
        have hnb : ∀ b ∈ m.L, b.area ≠ k := fun b hb e => by
          have : Sp.busyB m k = true := by unfold Sp.busyB; rw [List.any_eq_true]; exact ⟨b, hb, by simp [e]⟩
          rw [hbz] at this; cases this
        have HK := Lib.hid (HOK.out hnb)
        clear hbz hnb HOK
        rcases hk12 with rfl | rfl
        · go_enter Try.func26, Try.ntmps26
          go_wp2_with fail
          refine (IS.out _).mono ?_
          rintro e w1 ⟨rfl, hw1⟩
          subst hw1
          go_wp2_with fail
          refine (AR.out _ (P0.out.1.spcR fun _ _ _ => rfl)).mono ?_
          rintro e w1 ⟨rfl, hb1⟩
          have HB1 := Lib.hid ((belowA w (.cells #[.int .i64 1] 3)).trans (hb1.mono (by simp)))
          have P1 : Hid (KU w (w1.alloc (.cells #[.int .i64 ax, .int .i64 ay] 27)) g r (Sp.leftR m) V m.a1 m.a2 m.L vb w1.heap.size ax ay 1) := Lib.hid ⟨⟨(P0.out.1.below hb1).below (belowA _ _), Blk.new _ _ _, Frm.of_below (HB1.out.alloc HB1.out.size _)⟩, (P0.out.2.below hb1 P0.out.2.lt).alloc _⟩
          have hg1 : g < w1.heap.size := (P0.out.1.below hb1).lt
          have f9 : w1.cell? ⟨g, 9, none⟩ = some vb := (P0.out.1.below hb1).blk.cell 9
          clear hb1
          go_wp2_with fail
          refine (CF.out _ (SlR.of_owns encBk_len P1.out.cu.G.own) (fun W' hW' => (P1.out.next hW').kb.cell 0)).mono ?_
          rintro e w2 ⟨rfl, hb2⟩
          have P2 := Lib.hid (P1.out.next hb2)
          have hx : w1.heap.size ≠ g := by omega
          have b0 := P2.out.kb.cell 0
          have d5 := P2.out.cu.G.blk.cell 5
          have d6 := P2.out.cu.G.blk.cell 6
          have f5 := P2.out.cu.G.blk.frozen' 5
          have f6 := P2.out.cu.G.blk.frozen' 6
          simp only [spcG, List.getElem?_toArray, List.getElem?_cons_zero, List.getElem?_cons_succ] at b0 d5 d6
          clear hb2 P1 f9 HB1
          go_wp2_with fail
          go_region_with (fail)
          have P4 : KU w (((w2.setCell ⟨g, 5, none⟩ (.int .i64 0)).setCell ⟨g, 6, none⟩ (.int .i64 0)).drew) g r (Sp.leftR m) V (if (1 : Int) = 1 then ((0, 0) : Sp.S) else m.a1) (if (1 : Int) = 1 then m.a2 else ((0, 0) : Sp.S)) m.L vb w1.heap.size ax ay 1 := (P2.out.lay (k := 1) (Or.inl rfl) 0 0 hx hgl).drew
          generalize (((w2.setCell ⟨g, 5, none⟩ (.int .i64 0)).setCell ⟨g, 6, none⟩ (.int .i64 0)).drew) = w4 at P4 ⊢
          have HP4 := Lib.hid P4
          have FC := Lib.hid fun (W : World) (hP : KU w W g r (Sp.leftR m) V (if (1 : Int) = 1 then ((0, 0) : Sp.S) else m.a1) (if (1 : Int) = 1 then m.a2 else ((0, 0) : Sp.S)) m.L vb w1.heap.size ax ay 1) => free_cut g 1 (by omega) (by omega) (V 1) (Sp.leftR m 1) ax ay W (hP.cu.G.cell (by omega) (by omega)) (hP.cu.G.blk.frozen' _) (hP.cu.G.left 1 (by omega) (by omega)).1 (by omega)
          clear b0 d5 d6 f5 f6 P2
          go_wp2_with fail
          have hst4 := P4
          go_region_held3 (fun W => SKU w w1.heap.size ax ay 1 W)
            (first
              | exact KU.sku (by assumption)
              | (go_split_ands; exact KU.sku (by assumption))
              | (go_split_ands; exact KU.sku (KU.drew (by assumption))))
            (first
              | (go_at_call 49; refine (FC.out _ (by first | exact HP4.out.drew | exact HP4.out)).mono ?_; rintro e w5 ⟨rfl, v5, W5, ho5, hb5, hw5⟩; have P5 := (by first | exact KU.put (k := 1) (l := Sp.cut (Sp.leftR m 1) (ax, ay)) HP4.out.drew (by omega) (by omega) ho5 hb5 hgl hx | exact KU.put (k := 1) (l := Sp.cut (Sp.leftR m 1) (ax, ay)) HP4.out (by omega) (by omega) ho5 hb5 hgl hx); rw [← hw5] at P5; clear hw5))
          have HP5 := Lib.hid P5
          have HV5 : Hid (∀ a n c, v5 = .slice (some a) n c → w.heap.size ≤ a.block) := Lib.hid fun q n c e => by
            have h1 := (ho5.lt q.block (by rw [e]; rfl)).1
            have h2 := HP4.out.cu.frm.size
            simp at h1
            omega
          have FA := Lib.hid fun (W : World) (hP : KU w W g r (upd (Sp.leftR m) 1 (Sp.cut (Sp.leftR m 1) (ax, ay))) (upd V 1 v5) (if (1 : Int) = 1 then ((0, 0) : Sp.S) else m.a1) (if (1 : Int) = 1 then m.a2 else ((0, 0) : Sp.S)) m.L vb w1.heap.size ax ay 1) => free_add g 0 (by omega) (by omega) (V 0) (Sp.leftR m 0) ax ay W (hP.cu.G.cell (by omega) (by omega)) (hP.cu.G.blk.frozen' _) (hP.cu.G.left 0 (by omega) (by omega)).1 (by omega)
          clear hst4 P4 ho5 hb5 FC
          go_wp2_with fail
          have hst5 := P5
          go_region_held3 (fun W => SKU w w1.heap.size ax ay 1 W)
            (first
              | exact KU.sku (by assumption)
              | (go_split_ands; exact KU.sku (by assumption))
              | (go_split_ands; exact KU.sku (KU.drew (by assumption))))
            (first
              | (go_at_call 27; refine (FA.out _ (by first | exact HP5.out.drew | exact HP5.out)).mono ?_; rintro e w6 ⟨rfl, v6, W6, ho6, hb6, hw6⟩; have P6 := (by first | exact KU.put (k := 0) (l := Sp.add (Sp.leftR m 0) (ax, ay)) HP5.out.drew (by omega) (by omega) ho6 hb6 hgl hx | exact KU.put (k := 0) (l := Sp.add (Sp.leftR m 0) (ax, ay)) HP5.out (by omega) (by omega) ho6 hb6 hgl hx); rw [← hw6] at P6; clear hw6))
          have HP6 := Lib.hid P6
          have HV6 : Hid (∀ a n c, v6 = .slice (some a) n c → w.heap.size ≤ a.block) := Lib.hid fun q n c e => by
            have h1 := (ho6.lt q.block (by rw [e]; rfl)).1
            have h2 := HP5.out.cu.frm.size
            simp at h1
            omega
          clear hst5 P5 P6 ho6 hb6 FA
          go_wp2_with fail
          go_ret
          refine ⟨rfl, r, SpcG.spcR (m := m.lay 1 (0, 0)) HP6.out.cu.G fun j j0 j2 => ?_, NewRow.refl _ _, HP6.out.cu.frm, Old.of_upd HP6.out.cu.G HVC.out fun j j0 j2 => ?_⟩
          · obtain ⟨-, q1, q2, q3⟩ := HK.out
            have : j = 0 ∨ j = 1 ∨ j = 2 := by omega
            rcases this with rfl | rfl | rfl
            · exact q1.symm
            · first | exact q2.symm | exact q3.symm
            · first | exact q2.symm | exact q3.symm
          · have : j = 0 ∨ j = 1 ∨ j = 2 := by omega
            rcases this with rfl | rfl | rfl
            all_goals first | exact Or.inl rfl | exact Or.inr HV5.out | exact Or.inr HV6.out
        · go_enter Try.func26, Try.ntmps26
          go_wp2_with fail
          refine (IS.out _).mono ?_
          rintro e w1 ⟨rfl, hw1⟩
          subst hw1
          go_wp2_with fail
          refine (AR.out _ (P0.out.1.spcR fun _ _ _ => rfl)).mono ?_
          rintro e w1 ⟨rfl, hb1⟩
          have HB1 := Lib.hid ((belowA w (.cells #[.int .i64 2] 3)).trans (hb1.mono (by simp)))
          have P1 : Hid (KU w (w1.alloc (.cells #[.int .i64 ax, .int .i64 ay] 27)) g r (Sp.leftR m) V m.a1 m.a2 m.L vb w1.heap.size ax ay 2) := Lib.hid ⟨⟨(P0.out.1.below hb1).below (belowA _ _), Blk.new _ _ _, Frm.of_below (HB1.out.alloc HB1.out.size _)⟩, (P0.out.2.below hb1 P0.out.2.lt).alloc _⟩
          have hg1 : g < w1.heap.size := (P0.out.1.below hb1).lt
          have f9 : w1.cell? ⟨g, 9, none⟩ = some vb := (P0.out.1.below hb1).blk.cell 9
          clear hb1
          go_wp2_with fail
          refine (CF.out _ (SlR.of_owns encBk_len P1.out.cu.G.own) (fun W' hW' => (P1.out.next hW').kb.cell 0)).mono ?_
          rintro e w2 ⟨rfl, hb2⟩
          have P2 := Lib.hid (P1.out.next hb2)
          have hx : w1.heap.size ≠ g := by omega
          have b0 := P2.out.kb.cell 0
          have d5 := P2.out.cu.G.blk.cell 7
          have d6 := P2.out.cu.G.blk.cell 8
          have f5 := P2.out.cu.G.blk.frozen' 7
          have f6 := P2.out.cu.G.blk.frozen' 8
          simp only [spcG, List.getElem?_toArray, List.getElem?_cons_zero, List.getElem?_cons_succ] at b0 d5 d6
          clear hb2 P1 f9 HB1
          go_wp2_with fail
          go_region_with (fail)
          have P4 : KU w (((w2.setCell ⟨g, 7, none⟩ (.int .i64 0)).setCell ⟨g, 8, none⟩ (.int .i64 0)).drew) g r (Sp.leftR m) V (if (2 : Int) = 1 then ((0, 0) : Sp.S) else m.a1) (if (2 : Int) = 1 then m.a2 else ((0, 0) : Sp.S)) m.L vb w1.heap.size ax ay 2 := (P2.out.lay (k := 2) (Or.inr rfl) 0 0 hx hgl).drew
          generalize (((w2.setCell ⟨g, 7, none⟩ (.int .i64 0)).setCell ⟨g, 8, none⟩ (.int .i64 0)).drew) = w4 at P4 ⊢
          have HP4 := Lib.hid P4
          have FC := Lib.hid fun (W : World) (hP : KU w W g r (Sp.leftR m) V (if (2 : Int) = 1 then ((0, 0) : Sp.S) else m.a1) (if (2 : Int) = 1 then m.a2 else ((0, 0) : Sp.S)) m.L vb w1.heap.size ax ay 2) => free_cut g 2 (by omega) (by omega) (V 2) (Sp.leftR m 2) ax ay W (hP.cu.G.cell (by omega) (by omega)) (hP.cu.G.blk.frozen' _) (hP.cu.G.left 2 (by omega) (by omega)).1 (by omega)
          clear b0 d5 d6 f5 f6 P2
          go_wp2_with fail
          have hst4 := P4
          go_region_held3 (fun W => SKU w w1.heap.size ax ay 2 W)
            (first
              | exact KU.sku (by assumption)
              | (go_split_ands; exact KU.sku (by assumption))
              | (go_split_ands; exact KU.sku (KU.drew (by assumption))))
            (first
              | (go_at_call 49; refine (FC.out _ (by first | exact HP4.out.drew | exact HP4.out)).mono ?_; rintro e w5 ⟨rfl, v5, W5, ho5, hb5, hw5⟩; have P5 := (by first | exact KU.put (k := 2) (l := Sp.cut (Sp.leftR m 2) (ax, ay)) HP4.out.drew (by omega) (by omega) ho5 hb5 hgl hx | exact KU.put (k := 2) (l := Sp.cut (Sp.leftR m 2) (ax, ay)) HP4.out (by omega) (by omega) ho5 hb5 hgl hx); rw [← hw5] at P5; clear hw5))
          have HP5 := Lib.hid P5
          have HV5 : Hid (∀ a n c, v5 = .slice (some a) n c → w.heap.size ≤ a.block) := Lib.hid fun q n c e => by
            have h1 := (ho5.lt q.block (by rw [e]; rfl)).1
            have h2 := HP4.out.cu.frm.size
            simp at h1
            omega
          have FA := Lib.hid fun (W : World) (hP : KU w W g r (upd (Sp.leftR m) 2 (Sp.cut (Sp.leftR m 2) (ax, ay))) (upd V 2 v5) (if (2 : Int) = 1 then ((0, 0) : Sp.S) else m.a1) (if (2 : Int) = 1 then m.a2 else ((0, 0) : Sp.S)) m.L vb w1.heap.size ax ay 2) => free_add g 0 (by omega) (by omega) (V 0) (Sp.leftR m 0) ax ay W (hP.cu.G.cell (by omega) (by omega)) (hP.cu.G.blk.frozen' _) (hP.cu.G.left 0 (by omega) (by omega)).1 (by omega)
          clear hst4 P4 ho5 hb5 FC
          go_wp2_with fail
          have hst5 := P5
          go_region_held3 (fun W => SKU w w1.heap.size ax ay 2 W)
            (first
              | exact KU.sku (by assumption)
              | (go_split_ands; exact KU.sku (by assumption))
              | (go_split_ands; exact KU.sku (KU.drew (by assumption))))
            (first
              | (go_at_call 27; refine (FA.out _ (by first | exact HP5.out.drew | exact HP5.out)).mono ?_; rintro e w6 ⟨rfl, v6, W6, ho6, hb6, hw6⟩; have P6 := (by first | exact KU.put (k := 0) (l := Sp.add (Sp.leftR m 0) (ax, ay)) HP5.out.drew (by omega) (by omega) ho6 hb6 hgl hx | exact KU.put (k := 0) (l := Sp.add (Sp.leftR m 0) (ax, ay)) HP5.out (by omega) (by omega) ho6 hb6 hgl hx); rw [← hw6] at P6; clear hw6))
          have HP6 := Lib.hid P6
          have HV6 : Hid (∀ a n c, v6 = .slice (some a) n c → w.heap.size ≤ a.block) := Lib.hid fun q n c e => by
            have h1 := (ho6.lt q.block (by rw [e]; rfl)).1
            have h2 := HP5.out.cu.frm.size
            simp at h1
            omega
          clear hst5 P5 P6 ho6 hb6 FA
          go_wp2_with fail
          go_ret
          refine ⟨rfl, r, SpcG.spcR (m := m.lay 2 (0, 0)) HP6.out.cu.G fun j j0 j2 => ?_, NewRow.refl _ _, HP6.out.cu.frm, Old.of_upd HP6.out.cu.G HVC.out fun j j0 j2 => ?_⟩
          · obtain ⟨-, q1, q2, q3⟩ := HK.out
            have : j = 0 ∨ j = 1 ∨ j = 2 := by omega
            rcases this with rfl | rfl | rfl
            · exact q1.symm
            · first | exact q2.symm | exact q3.symm
            · first | exact q2.symm | exact q3.symm
          · have : j = 0 ∨ j = 1 ∨ j = 2 := by omega
            rcases this with rfl | rfl | rfl
            all_goals first | exact Or.inl rfl | exact Or.inr HV5.out | exact Or.inr HV6.out
      · rw [if_pos rfl]
        clear hbz HOK
        go_enter Try.func26, Try.ntmps26
        go_wp2_with fail
        refine (IS.out _).mono ?_
        rintro e w1 ⟨rfl, hw1⟩
        subst hw1
        go_wp2_with fail
        refine (AR.out _ (P0.out.1.spcR fun _ _ _ => rfl)).mono ?_
        rintro e w1 ⟨rfl, hb1⟩
        have HB1 := Lib.hid ((belowA w (.cells #[.int .i64 k] 3)).trans (hb1.mono (by simp)))
        have P1 : Hid (KU w (w1.alloc (.cells #[.int .i64 ax, .int .i64 ay] 27)) g r (Sp.leftR m) V m.a1 m.a2 m.L vb w1.heap.size ax ay k) := Lib.hid ⟨⟨(P0.out.1.below hb1).below (belowA _ _), Blk.new _ _ _, Frm.of_below (HB1.out.alloc HB1.out.size _)⟩, (P0.out.2.below hb1 P0.out.2.lt).alloc _⟩
        have hg1 : g < w1.heap.size := (P0.out.1.below hb1).lt
        have f9 : w1.cell? ⟨g, 9, none⟩ = some vb := (P0.out.1.below hb1).blk.cell 9
        clear hb1
        go_wp2_with fail
        refine (CF.out _ (SlR.of_owns encBk_len P1.out.cu.G.own) (fun W' hW' => (P1.out.next hW').kb.cell 0)).mono ?_
        rintro e w2 ⟨rfl, hb2⟩
        have HB2 := Lib.hid ((HB1.out.alloc HB1.out.size (.cells #[.int .i64 ax, .int .i64 ay] 27)).trans (hb2.mono (by have := HB1.out.size; simp; omega)))
        clear hb2
        go_wp2_with fail
        go_ret
        exact ⟨rfl, Left.same HS.out HB2.out⟩
end Go.Proofs.Ytbeombmblifohaa
