/- The document's spaces: Left. -/
import Derived.Test.YtilahcnpjbnjiaaGreatDoorSpcRef
namespace Go.Proofs.YtilahcnpjbnjiaaGreatDoor
set_option linter.unusedVariables false
set_option linter.unusedSimpArgs false
open Go.RowKit Go.Shelf Go.Proofs

/-- the document's Left, between two calls: the space's box is whole, the value reads as the list -/
structure LU (w W : World) (cs : Array Value) (v : Value) (l : List Sp.S) : Prop where
  rd : SlR W 2 encSp v l
  bx : Blk W w.heap.size 44 cs
  bel : Below w.heap.size w W
theorem LU.next {w W : World} {cs : Array Value} {v : Value} {l : List Sp.S} (h : LU w W cs v l) {W' : World} (hb : Below W.heap.size W W') : LU w W' cs v l :=
  ⟨h.rd.below hb (Nat.le_refl _), h.bx.below hb h.bx.lt, h.bel.trans (hb.mono h.bel.size)⟩
theorem LU.row {w W W' : World} {cs : Array Value} {v v' : Value} {l l' : List Sp.S} (h : LU w W cs v l) (ho : W'.ownsRow W.heap.size 35 2 v' l'.length (flat encSp l')) (hb : Below W.heap.size W W') : LU w W' cs v' l' :=
  ⟨SlR.of_owns encSp_len ho, h.bx.below hb h.bx.lt, h.bel.trans (hb.mono h.bel.size)⟩
theorem LU.lit {w W : World} {cs : Array Value} {v : Value} {l : List Sp.S} (h : LU w W cs v l) (s : Sp.S) (n : Nat) (hn : W.heap.size = n) : LU w (W.alloc (.cells #[.int .i64 s.1, .int .i64 s.2] 35)) cs (.slice (some ⟨n, 0, none⟩) 1 1) [s] :=
  ⟨hn ▸ slr_lit encSp_len W _ [s] (by simp) _ rfl, h.bx.alloc _, h.bel.alloc h.bel.size _⟩
theorem LU.nil (w : World) (cs : Array Value) : LU w (w.alloc (.cells cs 44)) cs (.slice none 0 0) [] := ⟨slr_nil _, Blk.new _ _ _, belowA _ _⟩
namespace Sp
theorem cutAll_take {l : List S} {L : List Bk} {k : Nat} (h : k < L.length) : cutAll l (L.take (k + 1)) = cut (cutAll l (L.take k)) L[k].sp := by
  rw [cutAll, List.take_succ_eq_append_getElem h, List.foldl_append]; rfl
end Sp
set_option maxRecDepth 100000 in
set_option maxHeartbeats 8000000 in
theorem r12_Left (m : Sp.Spc) (hm : Sp.WF m) (hlen : m.L.length ≤ 1000000) (k : Int) (vL : Value) (w : World) (hv : SlR w 4 encBk vL m.L) :
    Calls Tryz.prog 59 #[.agg (sA m vL), .int .i64 k] w (RetSl (Sp.leftR m k) w) := by
  obtain ⟨p, c, rfl, hc1, hc2, hR⟩ := hv
  have hb0 := (Sp.base0_ok hm).1
  have ho1 := fun h : m.a1.1 ≠ 0 => hm.at_ 1
  have hat := fun j => (hm.at_ j)
  have hz1 : m.a1.1 ≠ 0 → Sp.mayB m.a1 = true := fun h => by
    rcases hm.at_ 1 with e | e
    · exact absurd (congrArg Prod.fst e) h
    · exact Sp.owns_may e
  have hz2 : m.a2.1 ≠ 0 → Sp.mayB m.a2 = true := fun h => by
    rcases hm.at_ 2 with e | e
    · exact absurd (congrArg Prod.fst e) h
    · exact Sp.owns_may e
  obtain ⟨⟨x1, y1⟩, ⟨x2, y2⟩, L⟩ := m
  simp only at hz1 hz2 hlen hc1 hR ⊢
  have HR := Lib.hid hR
  have HNil := Lib.hid (LU.nil w (sA ⟨(x1, y1), (x2, y2), L⟩ (.slice p L.length c)))
  clear ho1 hat hm hR
  simp only [sA] at HNil ⊢
  generalize hz : Sp.leftR ⟨(x1, y1), (x2, y2), L⟩ k = z
  by_cases hk : k < 0 ∨ 2 < k
  · have hr : z = [] := by rw [← hz]; unfold Sp.leftR; rw [if_pos (by omega)]
    rw [hr]
    clear hr hz hz1 hz2 hb0
    have HB := Lib.hid HNil.out.bel
    rcases hk with hk | hk
    · go_enter Tryz.func59, Tryz.ntmps59
      go_wp2_with fail
      go_ret
      exact ⟨_, rfl, slr_nil _, HB.out⟩
    · have hk1 : ¬ k < 0 := by omega
      go_enter Tryz.func59, Tryz.ntmps59
      go_wp2_with fail
      go_ret
      exact ⟨_, rfl, slr_nil _, HB.out⟩
  · have hk12 : k = 0 ∨ k = 1 ∨ k = 2 := by omega
    clear hk
    have hcase : (k = 0 ∧ x1 = 0 ∧ ¬ 0 < x2) ∨ (k = 0 ∧ x1 = 0 ∧ 0 < x2) ∨ (k = 0 ∧ x1 ≠ 0 ∧ ¬ 0 < x2) ∨ (k = 0 ∧ x1 ≠ 0 ∧ 0 < x2) ∨ (k = 1 ∧ x1 ≠ 0) ∨ (k = 2 ∧ x2 ≠ 0) ∨ (k = 1 ∧ x1 = 0) ∨ (k = 2 ∧ x2 = 0) := by omega
    clear hk12
    have HC := Lib.hid fun (l : List Sp.S) (s : Sp.S) (v : Value) (W : World) (hl : l.length ≤ 536870912) (hv : SlR W 2 encSp v l) => ref_Cut l s v W hl hv
    rcases hcase with ⟨rfl, rfl, h2⟩ | ⟨rfl, rfl, h2⟩ | ⟨rfl, h1, h2⟩ | ⟨rfl, h1, h2⟩ | ⟨rfl, h1⟩ | ⟨rfl, h2⟩ | ⟨rfl, rfl⟩ | ⟨rfl, rfl⟩
    rotate_left 6
    focus
      have hr : z = [] := by rw [← hz]; unfold Sp.leftR; exact if_pos (Or.inr (Or.inr ⟨by omega, rfl⟩))
      rw [hr]
      have HB := Lib.hid HNil.out.bel
      have HX := HNil.out.bx
      have b2 := HX.cell 2
      clear hr hz hz1 hz2 hb0 HX
      go_enter Tryz.func59, Tryz.ntmps59
      go_wp2_with fail
      go_ret
      exact ⟨_, rfl, slr_nil _, HB.out⟩
    focus
      have hr : z = [] := by rw [← hz]; unfold Sp.leftR; exact if_pos (Or.inr (Or.inr ⟨by omega, rfl⟩))
      rw [hr]
      have HB := Lib.hid HNil.out.bel
      have HX := HNil.out.bx
      have b4 := HX.cell 4
      clear hr hz hz1 hz2 hb0 HX
      go_enter Tryz.func59, Tryz.ntmps59
      go_wp2_with fail
      go_ret
      exact ⟨_, rfl, slr_nil _, HB.out⟩
    focus
      have HL0 : Hid (∃ l0, l0 = Sp.whole ∧ Sp.Nrm l0 ∧ z = Sp.cutAll l0 L) := Lib.hid ⟨_, rfl, by
          have e : Sp.base0 ⟨(0, y1), (x2, y2), L⟩ = Sp.whole := by unfold Sp.base0; rw [if_neg h2, if_pos rfl]
          have hq : z = Sp.cutAll (Sp.whole) L := by rw [← hz, ← e]; unfold Sp.leftR; rw [if_neg (by omega), if_pos rfl]
          exact ⟨e ▸ hb0, hq⟩⟩
      have HLit := Lib.hid ((HNil.out.lit (0, 0) (w.heap.size + 1) (by simp)).lit (16, 1048575) (w.heap.size + 1 + 1) (by simp))
      have HX := HNil.out.bx
      have b0 := HX.cell 0
      have b1 := HX.cell 1
      have b2 := HX.cell 2
      have b3 := HX.cell 3
      have b4 := HX.cell 4
      have b5 := HX.cell 5
      have b6 := HX.cell 6
      have hxb : ((0 : Int) == 0) = true := by rfl
      have hxd : decide (0 < x2) = false := by simpa using h2
      clear hz hz1 hz2 hb0 HX HNil h2
      go_enter Tryz.func59, Tryz.ntmps59
      go_wp2_with fail
      refine (HC.out Sp.whole (0, y1) _ _ (by simp [Sp.whole]) HLit.out.rd).mono ?_
      rintro e w1 ⟨v1, rfl, ho1, hb1⟩
      have HU := Lib.hid (HLit.out.row ho1 hb1)
      clear ho1 hb1 HLit b0 b1 b2 b3 b4 b5 b6
      have HX := HU.out.bx
      have b0 := HX.cell 0
      have b1 := HX.cell 1
      have b2 := HX.cell 2
      have b3 := HX.cell 3
      have b4 := HX.cell 4
      have b5 := HX.cell 5
      have b6 := HX.cell 6
      have n4 := fun o => (HX.alloc o).cell 4
      have n5 := fun o => (HX.alloc o).cell 5
      clear HX
      go_wp2_with fail
      replace HU := Lib.hid (HU.out.lit (16, 1048575) w1.heap.size rfl)
    rotate_left
    focus
      have HL0 : Hid (∃ l0, l0 = Sp.cut (Sp.whole) (x2, y2) ∧ Sp.Nrm l0 ∧ z = Sp.cutAll l0 L) := Lib.hid ⟨_, rfl, by
          have e : Sp.base0 ⟨(0, y1), (x2, y2), L⟩ = Sp.cut (Sp.whole) (x2, y2) := by unfold Sp.base0; rw [if_pos h2, if_pos rfl]
          have hq : z = Sp.cutAll (Sp.cut (Sp.whole) (x2, y2)) L := by rw [← hz, ← e]; unfold Sp.leftR; rw [if_neg (by omega), if_pos rfl]
          exact ⟨e ▸ hb0, hq⟩⟩
      have HLit := Lib.hid ((HNil.out.lit (0, 0) (w.heap.size + 1) (by simp)).lit (16, 1048575) (w.heap.size + 1 + 1) (by simp))
      have HX := HNil.out.bx
      have b0 := HX.cell 0
      have b1 := HX.cell 1
      have b2 := HX.cell 2
      have b3 := HX.cell 3
      have b4 := HX.cell 4
      have b5 := HX.cell 5
      have b6 := HX.cell 6
      have hxb : ((0 : Int) == 0) = true := by rfl
      have hxd : decide (0 < x2) = true := by simpa using h2
      clear hz hz1 hz2 hb0 HX HNil h2
      go_enter Tryz.func59, Tryz.ntmps59
      go_wp2_with fail
      refine (HC.out Sp.whole (0, y1) _ _ (by simp [Sp.whole]) HLit.out.rd).mono ?_
      rintro e w1 ⟨v1, rfl, ho1, hb1⟩
      have HU := Lib.hid (HLit.out.row ho1 hb1)
      clear ho1 hb1 HLit b0 b1 b2 b3 b4 b5 b6
      have HX := HU.out.bx
      have b0 := HX.cell 0
      have b1 := HX.cell 1
      have b2 := HX.cell 2
      have b3 := HX.cell 3
      have b4 := HX.cell 4
      have b5 := HX.cell 5
      have b6 := HX.cell 6
      have n4 := fun o => (HX.alloc o).cell 4
      have n5 := fun o => (HX.alloc o).cell 5
      clear HX
      go_wp2_with fail
      replace HU := Lib.hid (HU.out.lit (16, 1048575) w1.heap.size rfl)
      refine (HC.out Sp.whole (x2, y2) _ _ (by simp [Sp.whole]) HU.out.rd).mono ?_
      rintro e w2 ⟨v2, rfl, ho2, hb2⟩
      replace HU := Lib.hid (HU.out.row ho2 hb2)
      clear ho2 hb2
      go_wp2_with fail
    rotate_left
    focus
      have HL0 : Hid (∃ l0, l0 = Sp.cut Sp.whole (x1, y1) ∧ Sp.Nrm l0 ∧ z = Sp.cutAll l0 L) := Lib.hid ⟨_, rfl, by
          have e : Sp.base0 ⟨(x1, y1), (x2, y2), L⟩ = Sp.cut Sp.whole (x1, y1) := by unfold Sp.base0; rw [if_neg h2, if_neg h1]
          have hq : z = Sp.cutAll (Sp.cut Sp.whole (x1, y1)) L := by rw [← hz, ← e]; unfold Sp.leftR; rw [if_neg (by omega), if_pos rfl]
          exact ⟨e ▸ hb0, hq⟩⟩
      have HLit := Lib.hid ((HNil.out.lit (0, 0) (w.heap.size + 1) (by simp)).lit (16, 1048575) (w.heap.size + 1 + 1) (by simp))
      skip
      have HX := HNil.out.bx
      have b0 := HX.cell 0
      have b1 := HX.cell 1
      have b2 := HX.cell 2
      have b3 := HX.cell 3
      have b4 := HX.cell 4
      have b5 := HX.cell 5
      have b6 := HX.cell 6
      have hxb : ((x1 : Int) == 0) = false := by rw [beq_eq_false_iff_ne]; exact h1
      have hxd : decide (0 < x2) = false := by simpa using h2
      clear hz hz1 hz2 hb0 HX HNil h2 h1
      go_enter Tryz.func59, Tryz.ntmps59
      go_wp2_with fail
      refine (HC.out Sp.whole (x1, y1) _ _ (by simp [Sp.whole]) HLit.out.rd).mono ?_
      rintro e w1 ⟨v1, rfl, ho1, hb1⟩
      have HU := Lib.hid (HLit.out.row ho1 hb1)
      clear ho1 hb1 HLit b0 b1 b2 b3 b4 b5 b6
      have HX := HU.out.bx
      have b0 := HX.cell 0
      have b1 := HX.cell 1
      have b2 := HX.cell 2
      have b3 := HX.cell 3
      have b4 := HX.cell 4
      have b5 := HX.cell 5
      have b6 := HX.cell 6
      go_wp2_with fail
      skip
    rotate_left
    focus
      have HL0 : Hid (∃ l0, l0 = Sp.cut (Sp.cut Sp.whole (x1, y1)) (x2, y2) ∧ Sp.Nrm l0 ∧ z = Sp.cutAll l0 L) := Lib.hid ⟨_, rfl, by
          have e : Sp.base0 ⟨(x1, y1), (x2, y2), L⟩ = Sp.cut (Sp.cut Sp.whole (x1, y1)) (x2, y2) := by unfold Sp.base0; rw [if_pos h2, if_neg h1]
          have hq : z = Sp.cutAll (Sp.cut (Sp.cut Sp.whole (x1, y1)) (x2, y2)) L := by rw [← hz, ← e]; unfold Sp.leftR; rw [if_neg (by omega), if_pos rfl]
          exact ⟨e ▸ hb0, hq⟩⟩
      have HLit := Lib.hid ((HNil.out.lit (0, 0) (w.heap.size + 1) (by simp)).lit (16, 1048575) (w.heap.size + 1 + 1) (by simp))
      skip
      have HX := HNil.out.bx
      have b0 := HX.cell 0
      have b1 := HX.cell 1
      have b2 := HX.cell 2
      have b3 := HX.cell 3
      have b4 := HX.cell 4
      have b5 := HX.cell 5
      have b6 := HX.cell 6
      have hxb : ((x1 : Int) == 0) = false := by rw [beq_eq_false_iff_ne]; exact h1
      have hxd : decide (0 < x2) = true := by simpa using h2
      clear hz hz1 hz2 hb0 HX HNil h2 h1
      go_enter Tryz.func59, Tryz.ntmps59
      go_wp2_with fail
      refine (HC.out Sp.whole (x1, y1) _ _ (by simp [Sp.whole]) HLit.out.rd).mono ?_
      rintro e w1 ⟨v1, rfl, ho1, hb1⟩
      have HU := Lib.hid (HLit.out.row ho1 hb1)
      clear ho1 hb1 HLit b0 b1 b2 b3 b4 b5 b6
      have HX := HU.out.bx
      have b0 := HX.cell 0
      have b1 := HX.cell 1
      have b2 := HX.cell 2
      have b3 := HX.cell 3
      have b4 := HX.cell 4
      have b5 := HX.cell 5
      have b6 := HX.cell 6
      go_wp2_with fail
      skip
      refine (HC.out (Sp.cut Sp.whole (x1, y1)) (x2, y2) _ _ (by have h := Sp.nrm_len (Sp.cut_nrm Sp.whole (x1, y1)); omega) HU.out.rd).mono ?_
      rintro e w2 ⟨v2, rfl, ho2, hb2⟩
      replace HU := Lib.hid (HU.out.row ho2 hb2)
      clear ho2 hb2
      go_wp2_with fail
    rotate_left
    focus
      have hq : z = Sp.cutAll [(x1, y1)] L := by rw [← hz]; unfold Sp.leftR; exact if_neg (fun h => by rcases h with h | h | h; omega; omega; exact h1 h.2)
      have HL0 : Hid (∃ l0, l0 = [(x1, y1)] ∧ Sp.Nrm l0 ∧ z = Sp.cutAll l0 L) := Lib.hid ⟨_, rfl, Sp.one_nrm (hz1 h1), hq⟩
      have HU := Lib.hid (HNil.out.lit (x1, y1) (w.heap.size + 1) (by simp))
      have HX := HNil.out.bx
      have b0 := HX.cell 0
      have b1 := HX.cell 1
      have b2 := HX.cell 2
      have b3 := HX.cell 3
      have b4 := HX.cell 4
      have b5 := HX.cell 5
      have b6 := HX.cell 6
      have hxb : ((x1 : Int) == 0) = false := by rw [beq_eq_false_iff_ne]; exact h1
      clear hz hq hz1 hz2 hb0 HX HNil h1
      go_enter Tryz.func59, Tryz.ntmps59
      go_wp2_with fail
    rotate_left
    focus
      have hq : z = Sp.cutAll [(x2, y2)] L := by rw [← hz]; unfold Sp.leftR; exact if_neg (fun h => by rcases h with h | h | h; omega; omega; exact h2 h.2)
      have HL0 : Hid (∃ l0, l0 = [(x2, y2)] ∧ Sp.Nrm l0 ∧ z = Sp.cutAll l0 L) := Lib.hid ⟨_, rfl, Sp.one_nrm (hz2 h2), hq⟩
      have HU := Lib.hid (HNil.out.lit (x2, y2) (w.heap.size + 1) (by simp))
      have HX := HNil.out.bx
      have b0 := HX.cell 0
      have b1 := HX.cell 1
      have b2 := HX.cell 2
      have b3 := HX.cell 3
      have b4 := HX.cell 4
      have b5 := HX.cell 5
      have b6 := HX.cell 6
      have hxb : ((x2 : Int) == 0) = false := by rw [beq_eq_false_iff_ne]; exact h2
      clear hz hq hz1 hz2 hb0 HX HNil h2
      go_enter Tryz.func59, Tryz.ntmps59
      go_wp2_with fail
    rotate_left
    all_goals
      clear hxb
      obtain ⟨l0, hl0, HN, HZ⟩ := HL0.out
      first | rw [← hl0] at HU | (rw [show ([(16, 1048575)] : List Sp.S) = Sp.whole from rfl, ← hl0] at HU)
      replace HN := Lib.hid HN
      replace HZ := Lib.hid HZ
      clear hl0 HL0
      first
        | go_loopw [5, 6] (fun l5 i6 wr => ∃ (k : Nat) (v : Value), k ≤ L.length ∧ i6 = .int .i64 k ∧ l5 = v ∧ Hid (LU w wr #[.int .i64 0, .int .i64 0, .int .i64 x1, .int .i64 y1, .int .i64 x2, .int .i64 y2, .slice p L.length c] v (Sp.cutAll l0 (L.take k)))) (fun _ i6 _ => L.length - (intOf i6).toNat)
        | go_loopw [5, 6] (fun l5 i6 wr => ∃ (k : Nat) (v : Value), k ≤ L.length ∧ i6 = .int .i64 k ∧ l5 = v ∧ Hid (LU w wr #[.int .i64 0, .int .i64 0, .int .i64 0, .int .i64 y1, .int .i64 x2, .int .i64 y2, .slice p L.length c] v (Sp.cutAll l0 (L.take k)))) (fun _ i6 _ => L.length - (intOf i6).toNat)
      case atStart => exact ⟨0, _, Nat.zero_le _, rfl, rfl, HU⟩
      case round =>
        obtain ⟨k, v, hk, rfl, rfl, HV⟩ := hrel
        have c6 := HV.out.bx.cell 6
        by_cases hlt : k < L.length
        · obtain ⟨bb, off, rfl, hbs, hcl⟩ := (HR.out.below HV.out.bel (Nat.le_refl _)).at hlt
          have c0 := hcl 0 _ rfl
          have c1 := hcl 1 _ rfl
          simp only [Nat.add_zero] at c0
          have HT := Lib.hid (Sp.cutAll_take (l := l0) hlt)
          have hlen2 := Sp.nrm_len (Sp.cutAll_nrm (L.take k) HN.out)
          clear hcl
          go_wp2_with fail
          refine (HC.out (Sp.cutAll l0 (L.take k)) L[k].sp _ _ (by omega) HV.out.rd).mono ?_
          rintro e w3 ⟨v3, rfl, ho3, hb3⟩
          go_wp2_with fail
          exact ⟨⟨k + 1, v3, by omega, by go_num, rfl, Lib.hid (by rw [HT.out]; exact HV.out.row ho3 hb3)⟩, by simp [intOf]; omega⟩
        · have HW : Hid (LU w wr _ _ z) := Lib.hid (by
            have h := HV.out
            rw [List.take_of_length_le (by omega), ← HZ.out] at h
            exact h)
          go_wp2_with fail
          go_ret
          exact ⟨_, rfl, HW.out.rd, HW.out.bel⟩
end Go.Proofs.YtilahcnpjbnjiaaGreatDoor
