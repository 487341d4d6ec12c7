/- footplateref26.Of. -/
import Derived.Test.YtilahcnpjbnjiaaGreatDoorSegLabels
namespace Go.Proofs.YtilahcnpjbnjiaaGreatDoor
set_option linter.unusedVariables false
set_option linter.unusedSimpArgs false
open Go.RowKit Go.Shelf Go.Proofs Go.OctetPlain

/-- the segment that a label may be -/
def gOf (a b : Int) (is : Bool) (n : Int) : Sg.Seg := if is = true ∧ a ≤ n ∧ n ≤ b then ⟨false, n - a⟩ else ⟨true, n⟩
theorem segR_gOf (m : Sp.Spc) (n : Int) : Sg.segR m n = if (Sg.labelR m (gOf (Sp.areaR m 1).1.1 (Sp.areaR m 1).1.2 (Sp.areaR m 1).2 n)).2 = 0 then some (gOf (Sp.areaR m 1).1.1 (Sp.areaR m 1).1.2 (Sp.areaR m 1).2 n) else none := by
  unfold Sg.segR gOf
  by_cases h : (Sp.areaR m 1).2 = true ∧ (Sp.areaR m 1).1.1 ≤ n ∧ n ≤ (Sp.areaR m 1).1.2
  · rw [if_pos h, if_pos h]
    obtain ⟨h1, h2, h3⟩ := h
    have hz : ¬ ((1 : Int) < 1 ∨ 2 < (1 : Int) ∨ (m.at 1).1 = 0) := fun hc => by
      unfold Sp.areaR at h1
      rw [if_pos hc] at h1
      cases h1
    have ha : (Sp.areaR m 1).1 = m.a1 := by
      unfold Sp.areaR
      rw [if_neg hz]
      rfl
    rw [ha] at h2 h3 ⊢
    have h0 : m.a1.1 ≠ 0 := fun e => hz (Or.inr (Or.inr e))
    have hi : Sp.indexR m (n - m.a1.1) = (m.a1.1 + (n - m.a1.1), true) := by
      unfold Sp.indexR
      rw [if_neg (by omega)]
    have hl : Sg.labelR m ⟨false, n - m.a1.1⟩ = (m.a1.1 + (n - m.a1.1), 0) := by
      unfold Sg.labelR
      simp [hi]
    rw [hl]
    simp
  · rw [if_neg h, if_neg h]
    unfold Sg.labelR
    by_cases hc : (Sp.ownerR m n).1 = 0 ∨ (Sp.ownerR m n).2 ≠ 2
    · simp [hc]
    · simp [hc]
theorem area_bounds {m : Sp.Spc} (hm : Sp.WF m) (h : (Sp.areaR m 1).2 = true) : 16 ≤ (Sp.areaR m 1).1.1 ∧ (Sp.areaR m 1).1.1 ≤ (Sp.areaR m 1).1.2 ∧ (Sp.areaR m 1).1.2 ≤ 1048575 := by
  have hz : ¬ ((1 : Int) < 1 ∨ 2 < (1 : Int) ∨ (m.at 1).1 = 0) := fun hc => by
    unfold Sp.areaR at h
    rw [if_pos hc] at h
    cases h
  have ha : (Sp.areaR m 1).1 = m.a1 := by
    unfold Sp.areaR
    rw [if_neg hz]
    rfl
  have h0 : m.a1.1 ≠ 0 := fun e => hz (Or.inr (Or.inr e))
  rw [ha]
  rcases hm.w1 with h1 | h1
  · rw [h1] at h0; exact absurd rfl h0
  · exact Sp.owns_iff.1 h1
theorem ofF_step (m : Sp.Spc) {ls : List Int} {t : Nat} (h : t < ls.length) (out : List Sg.Seg) : (Sg.ofF m (ls.take (t + 1)).reverse).map (out ++ ·) = match Sg.segR m ls[t] with
    | none => none
    | some x => (Sg.ofF m (ls.take t).reverse).map ((out ++ [x]) ++ ·) := by
  rw [List.take_succ_eq_append_getElem h, List.reverse_append, List.reverse_singleton, List.singleton_append, Sg.ofF]
  cases Sg.segR m ls[t] with
  | none => rfl
  | some x => cases Sg.ofF m (ls.take t).reverse <;> simp
theorem infoG : (Tryz.prog.info? 70).map (·.size) = some 2 := by kernel_rfl
structure RoS (m : Sp.Spc) (vL : Value) (w : World) (wr : World) (out : List Sg.Seg) (vo : Value) : Prop where
  U : QU w wr w.heap.size m vL
  own : wr.ownsRow (w.heap.size + 1) 70 2 vo out.length (flat encG out)
theorem RoS.next {m : Sp.Spc} {vL : Value} {w wr W : World} {out : List Sg.Seg} {vo : Value} (h : RoS m vL w wr out vo) (hb : Below wr.heap.size wr W) : RoS m vL w W out vo := ⟨h.U.next hb, owns_below h.own hb (Nat.le_refl _)⟩
theorem slr_nilG (w : World) : SlR w 2 encG (.slice none 0 0) [] := ⟨none, 0, rfl, Nat.le_refl _, by omega, ⟨fun _ => rfl, fun a ha => by cases ha⟩⟩
/-- beside the space's box: the area's, the segment's -/
structure RoT (m : Sp.Spc) (vL : Value) (w : World) (out : List Sg.Seg) (vo : Value) (G : Nat) (cs : Array Value) (W : World) : Prop where
  S : RoS m vL w W out vo
  g : Blk W G 70 cs
theorem RoT.next {m : Sp.Spc} {vL : Value} {w W W' : World} {out : List Sg.Seg} {vo : Value} {G : Nat} {cs : Array Value} (h : RoT m vL w out vo G cs W) (hb : Below W.heap.size W W') : RoT m vL w out vo G cs W' := ⟨h.S.next hb, h.g.below hb h.g.lt⟩
theorem grown_setRow (W : World) (z : Nat) (cs : Array Value) : W.grownBy (W.setRow z cs) (some z) := by
  have hd := below_setRow (Below.refl 0 W) (Nat.zero_le z) cs
  exact ⟨hd.os, hd.tape, hd.output, hd.size, fun k hk hne => setRow_other W z k cs (fun e => hne (by rw [e]))⟩
theorem RoT.setG {m : Sp.Spc} {vL : Value} {w W : World} {out : List Sg.Seg} {vo : Value} {G : Nat} {cs : Array Value} (h : RoT m vL w out vo G cs W) (hv : SlR w 4 encBk vL m.L) (hG : w.heap.size < G) (hn : vo.ownBlock ≠ some G) (cs' : Array Value) : RoT m vL w out vo G cs' (W.setRow G cs') := by
  have hb := below_setRow h.S.U.bel (by omega : w.heap.size ≤ G) cs'
  exact ⟨⟨⟨hv.below hb (Nat.le_refl _), h.S.U.bx.otherRow _ _ (by omega), hb⟩, h.S.own.kept (grown_setRow W G cs') (Or.inr hn)⟩, h.g.setRow _⟩
set_option maxRecDepth 100000 in
set_option maxHeartbeats 4000000 in
theorem r26_Of (m : Sp.Spc) (hm : Sp.WF m) (hml : m.L.length ≤ 1000000) (ls : List Int) (hl : ls.length ≤ 1000000) (v vL : Value) (w : World) (hvL : SlR w 4 encBk vL m.L) (hv : SlR w 1 encI v ls) :
    Calls Tryz.prog 18 #[.agg (sA m vL), v] w fun e w' => ∃ v', e = .returned (.tuple #[v', .bool (Sg.ofR m ls).isSome]) ∧ SlR w' 2 encG v' ((Sg.ofR m ls).getD []) ∧ Below w.heap.size w w' := by
  have HQ0 := Lib.hid (QU.first w m vL hvL)
  have HL := Lib.hid fun x W hW => r26_label m hm hml x vL W hW
  have HA := Lib.hid fun W => r12_Area m vL (by obtain ⟨p, c, h, _⟩ := hvL; exact ⟨p, _, c, h⟩) 1 W
  have HVL := Lib.hid hvL
  have HSG := Lib.hid (segR_gOf m)
  have HAB := Lib.hid (area_bounds hm)
  obtain ⟨pL, capL, rfl, -⟩ := hvL
  obtain ⟨p, cap, rfl, hd1, hd2, hR⟩ := hv
  have HR := Lib.hid hR
  have H0 : Hid (RoS m (.slice pL m.L.length capL) w (w.alloc (.cells (sA m (.slice pL m.L.length capL)) 44)) [] (.slice none 0 0)) := Lib.hid ⟨HQ0.out, World.ownsRow_nil _ _ _ _⟩
  have HE0 : Hid (Sg.ofR m ls = (Sg.ofF m (ls.take ls.length).reverse).map ([] ++ ·)) := Lib.hid (by rw [List.take_length]; unfold Sg.ofR; cases Sg.ofF m ls.reverse <;> simp)
  clear hR hm HQ0
  obtain ⟨⟨x1, y1⟩, ⟨x2, y2⟩, L⟩ := m
  simp only [RetSB] at HA
  generalize Sp.areaR ⟨(x1, y1), (x2, y2), L⟩ 1 = qa at *
  obtain ⟨⟨a, b⟩, is⟩ := qa
  simp only [sA] at HL H0 HA HSG HAB ⊢
  go_enter Tryz.func18, Tryz.ntmps18
  go_wp2_with fail
  go_loopw [6, 7] (fun vo i wr => ∃ (t : Nat) (out : List Sg.Seg), t ≤ ls.length ∧ i = .int .i64 ((t : Int) - 1) ∧ out.length + t = ls.length ∧ Hid (Sg.ofR ⟨(x1, y1), (x2, y2), L⟩ ls = (Sg.ofF ⟨(x1, y1), (x2, y2), L⟩ (ls.take t).reverse).map (out ++ ·)) ∧ Hid (RoS ⟨(x1, y1), (x2, y2), L⟩ (.slice pL L.length capL) w wr out vo)) (fun _ i _ => (intOf i + 1).toNat)
  case atStart => exact ⟨ls.length, [], Nat.le_refl _, rfl, by simp, HE0, H0⟩
  case round =>
    clear H0 HE0
    obtain ⟨t, out, ht, rfl, hol, HE, HT⟩ := hrel
    have hz := HT.out.U.bx.lt
    cases t with
    | succ t =>
      have hi : (((t + 1 : Nat) : Int) - 1) = (t : Int) := by omega
      rw [hi]
      have hlt : t < ls.length := ht
      obtain ⟨bl, ol, rfl, hbl, hcl⟩ := HR.out.at hlt
      have hx : wr.cell? ⟨bl, ol + t, none⟩ = some (.int .i64 ls[t]) := by
        have h1 := hcl 0 (.int .i64 ls[t]) rfl
        simp only [Nat.mul_one, Nat.add_zero] at h1
        rw [← h1]
        exact HT.out.U.bel.cell (p := ⟨bl, ol + t, none⟩) hbl
      have hbl2 : bl < wr.heap.size := Nat.lt_of_lt_of_le hbl HT.out.U.bel.size
      have HE := HE.out
      rw [ofF_step _ hlt, HSG.out] at HE
      have HC := HL.out (gOf a b is ls[t])
      have hgo : gOf a b is ls[t] = if is = true ∧ a ≤ ls[t] ∧ ls[t] ≤ b then ⟨false, ls[t] - a⟩ else ⟨true, ls[t]⟩ := rfl
      generalize hg : gOf a b is ls[t] = gx at *
      generalize hq : Sg.labelR ⟨(x1, y1), (x2, y2), L⟩ gx = q at *
      obtain ⟨lb, er⟩ := q
      clear hq hg hcl
      generalize ls[t] = n at *
      obtain ⟨gl, gn⟩ := gx
      simp only at HC HE
      have HC := Lib.hid HC
      have HE := Lib.hid HE
      go_wp2_with (refine wpList_load_row rfl _ _ rfl w.heap.size rfl _ (sA ⟨(x1, y1), (x2, y2), L⟩ (.slice pL L.length capL)) (0, 0) _ HT.out.U.bx Tryz.underlying44 rfl infoS ?_)
      refine (HA.out _).mono ?_
      rintro e W2 ⟨rfl, hb2⟩
      have HT2 := Lib.hid (HT.out.next hb2)
      have hx2 : W2.cell? ⟨bl, ol + t, none⟩ = some (.int .i64 n) := (hb2.cell (p := ⟨bl, ol + t, none⟩) hbl2).trans hx
      have hbl3 : bl < W2.heap.size := Nat.lt_of_lt_of_le hbl2 hb2.size
      have hz2 := HT2.out.U.bx.lt
      have HT3 : Hid (RoT ⟨(x1, y1), (x2, y2), L⟩ (.slice pL L.length capL) w out u6 (W2.heap.size + 1) #[.bool true, .int .i64 n] ((W2.alloc (.cells #[.int .i64 a, .int .i64 b] 35)).alloc (.cells #[.bool true, .int .i64 n] 70))) := Lib.hid ⟨(HT2.out.next (belowA _ _)).next (belowA _ _), by
        have h := Blk.new (W2.alloc (.cells #[.int .i64 a, .int .i64 b] 35)) 70 #[.bool true, .int .i64 n]
        rw [World.size_alloc] at h
        exact h⟩
      have HTD := Lib.hid fun k => HT3.out.next (below_drewN (Below.refl _ _) k)
      have hno : ∀ G, W2.heap.size ≤ G → u6.ownBlock ≠ some G := fun G hG e => by have := (HT2.out.own.lt G e).2; omega
      clear hx hbl2 hb2 HT HT2
      by_cases hin : is = true ∧ a ≤ n ∧ n ≤ b
      · rw [if_pos hin] at hgo
        obtain ⟨rfl, ha, hb⟩ := hin
        obtain ⟨q1, q2, q3⟩ := HAB.out rfl
        simp only [Sg.Seg.mk.injEq] at hgo
        obtain ⟨rfl, rfl⟩ := hgo
        go_wp2_with fail
        go_quiet (fail)
        go_wp2_with fail
        have HV := HTD.out nq
        have hxV : (((W2.alloc (.cells #[.int .i64 a, .int .i64 b] 35)).alloc (.cells #[.bool true, .int .i64 n] 70)).drewN nq).cell? ⟨bl, ol + t, none⟩ = some (.int .i64 n) := by
          rw [← hx2]
          exact Below.cell (B := W2.heap.size) (below_drewN ((belowA W2 _).alloc (by simp) _) nq) (p := ⟨bl, ol + t, none⟩) hbl3
        have hsV : (((W2.alloc (.cells #[.int .i64 a, .int .i64 b] 35)).alloc (.cells #[.bool true, .int .i64 n] 70)).drewN nq).cell? ⟨W2.heap.size, 0, none⟩ = some (.int .i64 a) := (((Blk.new W2 _ _).alloc _).drewN nq).cell 0
        generalize ((W2.alloc (.cells #[.int .i64 a, .int .i64 b] 35)).alloc (.cells #[.bool true, .int .i64 n] 70)).drewN nq = V at *
        have HV := Lib.hid HV
        have hwr : IntKind.i64.wrap (n - a) = n - a := IntWalk.i64_in _ (by omega)
        go_still_tail 8, (by kernel_rfl)
        change wpList _ _ _ _ _ V.drew
        refine wpList_store_row rfl _ _ _ rfl (W2.heap.size + 1) #[.bool false, .int .i64 (n - a)] rfl rfl _ _ (HV.out.next (Below.refl _ _).drew).g infoG rfl (oneSeg _ _) ?_
        have HT4 := Lib.hid ((HV.out.next (Below.refl _ _).drew).setG HVL.out (by omega) (hno _ (by omega)) #[.bool false, .int .i64 (n - a)])
        go_wp2_with (first
          | (refine wpList_load_row rfl _ _ rfl w.heap.size rfl _ (sA ⟨(x1, y1), (x2, y2), L⟩ (.slice pL L.length capL)) (0, 0) _ HT4.out.S.U.bx Tryz.underlying44 rfl infoS ?_)
          | (refine wpList_load_row rfl _ _ rfl (W2.heap.size + 1) rfl _ #[.bool false, .int .i64 (n - a)] (0, 0) _ HT4.out.g Tryz.underlying70 rfl infoG ?_))
        refine (HC.out _ HT4.out.S.U.rd).mono ?_
        rintro e w5 ⟨rfl, hb5⟩
        have HT5 := Lib.hid (HT4.out.next hb5)
        clear hb5 HT4
        by_cases h0 : er = 0
        · subst h0
          have HE9 : Hid (Sg.ofR ⟨(x1, y1), (x2, y2), L⟩ ls = (Sg.ofF ⟨(x1, y1), (x2, y2), L⟩ (ls.take t).reverse).map ((out ++ [⟨false, (n - a)⟩]) ++ ·)) := Lib.hid (by rw [HE.out]; simp)
          have hz5 := HT5.out.S.U.bx.lt
          go_wp2_with (first
            | (refine wpList_load_row rfl _ _ rfl (W2.heap.size + 1) rfl _ #[.bool false, .int .i64 (n - a)] (0, 0) _ HT5.out.g Tryz.underlying70 rfl infoG ?_)
            | (at_builtin; go_loud (refine wpList_app elemG rfl (.tmp 65) (.tmp 67) rfl (w.heap.size + 1) u6 _ _ rfl HT5.out.S.own 1 1 [.bool false, .int .i64 (n - a)] rfl rfl (by simp [Value.oneCell']) (by omega) (by omega) ?_; intro v6 w6 hown6 hgr6 hob6 hb6; have HW6 := Lib.hid hown6; have HB6 := Lib.hid hb6; clear hgr6 hob6 hb6 hown6)))
          refine ⟨⟨t, out ++ [⟨false, (n - a)⟩], by omega, by go_num, by simp; omega, HE9, Lib.hid ⟨⟨HVL.out.below (HT5.out.S.U.bel.trans (HB6.out.mono (by omega))) (Nat.le_refl _), (HB6.out.block _ (by omega)).trans HT5.out.S.U.bx, HT5.out.S.U.bel.trans (HB6.out.mono (by omega))⟩, ?_⟩⟩, by simp [intOf]⟩
          have h6 := HW6.out
          rw [flat_append, List.length_append]
          exact h6
        · have HE : Hid (Sg.ofR ⟨(x1, y1), (x2, y2), L⟩ ls = none) := Lib.hid (by rw [HE.out, if_neg h0])
          have e0 : (er != 0) = true := by simpa using h0
          go_wp2_with fail
          exact bodyPost_ret (v := .tuple #[.slice none 0 0, .bool false]) (by simp [results, Tryz.results18, go_sem]) rfl ⟨.slice none 0 0, by rw [HE.out]; rfl, by rw [HE.out]; exact slr_nilG _, HT5.out.S.U.bel⟩
      · rw [if_neg hin] at hgo
        simp only [Sg.Seg.mk.injEq] at hgo
        obtain ⟨rfl, rfl⟩ := hgo
        cases is with
        | false =>
          clear hin
          go_wp2_with fail
          go_quiet (fail)
          have HT4 := Lib.hid (HTD.out nq)
          go_wp2_with (first
            | (refine wpList_load_row rfl _ _ rfl w.heap.size rfl _ (sA ⟨(x1, y1), (x2, y2), L⟩ (.slice pL L.length capL)) (0, 0) _ HT4.out.S.U.bx Tryz.underlying44 rfl infoS ?_)
            | (refine wpList_load_row rfl _ _ rfl (W2.heap.size + 1) rfl _ #[.bool true, .int .i64 gn] (0, 0) _ HT4.out.g Tryz.underlying70 rfl infoG ?_))
          refine (HC.out _ HT4.out.S.U.rd).mono ?_
          rintro e w5 ⟨rfl, hb5⟩
          have HT5 := Lib.hid (HT4.out.next hb5)
          clear hb5 HT4
          by_cases h0 : er = 0
          · subst h0
            have HE9 : Hid (Sg.ofR ⟨(x1, y1), (x2, y2), L⟩ ls = (Sg.ofF ⟨(x1, y1), (x2, y2), L⟩ (ls.take t).reverse).map ((out ++ [⟨true, gn⟩]) ++ ·)) := Lib.hid (by rw [HE.out]; simp)
            have hz5 := HT5.out.S.U.bx.lt
            go_wp2_with (first
              | (refine wpList_load_row rfl _ _ rfl (W2.heap.size + 1) rfl _ #[.bool true, .int .i64 gn] (0, 0) _ HT5.out.g Tryz.underlying70 rfl infoG ?_)
              | (at_builtin; go_loud (refine wpList_app elemG rfl (.tmp 65) (.tmp 67) rfl (w.heap.size + 1) u6 _ _ rfl HT5.out.S.own 1 1 [.bool true, .int .i64 gn] rfl rfl (by simp [Value.oneCell']) (by omega) (by omega) ?_; intro v6 w6 hown6 hgr6 hob6 hb6; have HW6 := Lib.hid hown6; have HB6 := Lib.hid hb6; clear hgr6 hob6 hb6 hown6)))
            refine ⟨⟨t, out ++ [⟨true, gn⟩], by omega, by go_num, by simp; omega, HE9, Lib.hid ⟨⟨HVL.out.below (HT5.out.S.U.bel.trans (HB6.out.mono (by omega))) (Nat.le_refl _), (HB6.out.block _ (by omega)).trans HT5.out.S.U.bx, HT5.out.S.U.bel.trans (HB6.out.mono (by omega))⟩, ?_⟩⟩, by simp [intOf]⟩
            have h6 := HW6.out
            rw [flat_append, List.length_append]
            exact h6
          · have HE : Hid (Sg.ofR ⟨(x1, y1), (x2, y2), L⟩ ls = none) := Lib.hid (by rw [HE.out, if_neg h0])
            have e0 : (er != 0) = true := by simpa using h0
            go_wp2_with fail
            exact bodyPost_ret (v := .tuple #[.slice none 0 0, .bool false]) (by simp [results, Tryz.results18, go_sem]) rfl ⟨.slice none 0 0, by rw [HE.out]; rfl, by rw [HE.out]; exact slr_nilG _, HT5.out.S.U.bel⟩
        | true =>
          by_cases ha : a ≤ gn
          · have hb : ¬ gn ≤ b := fun h => hin ⟨rfl, ha, h⟩
            clear hin
            go_wp2_with fail
            go_quiet (fail)
            have HT4 := Lib.hid (HTD.out nq)
            go_wp2_with (first
              | (refine wpList_load_row rfl _ _ rfl w.heap.size rfl _ (sA ⟨(x1, y1), (x2, y2), L⟩ (.slice pL L.length capL)) (0, 0) _ HT4.out.S.U.bx Tryz.underlying44 rfl infoS ?_)
              | (refine wpList_load_row rfl _ _ rfl (W2.heap.size + 1) rfl _ #[.bool true, .int .i64 gn] (0, 0) _ HT4.out.g Tryz.underlying70 rfl infoG ?_))
            refine (HC.out _ HT4.out.S.U.rd).mono ?_
            rintro e w5 ⟨rfl, hb5⟩
            have HT5 := Lib.hid (HT4.out.next hb5)
            clear hb5 HT4
            by_cases h0 : er = 0
            · subst h0
              have HE9 : Hid (Sg.ofR ⟨(x1, y1), (x2, y2), L⟩ ls = (Sg.ofF ⟨(x1, y1), (x2, y2), L⟩ (ls.take t).reverse).map ((out ++ [⟨true, gn⟩]) ++ ·)) := Lib.hid (by rw [HE.out]; simp)
              have hz5 := HT5.out.S.U.bx.lt
              go_wp2_with (first
                | (refine wpList_load_row rfl _ _ rfl (W2.heap.size + 1) rfl _ #[.bool true, .int .i64 gn] (0, 0) _ HT5.out.g Tryz.underlying70 rfl infoG ?_)
                | (at_builtin; go_loud (refine wpList_app elemG rfl (.tmp 65) (.tmp 67) rfl (w.heap.size + 1) u6 _ _ rfl HT5.out.S.own 1 1 [.bool true, .int .i64 gn] rfl rfl (by simp [Value.oneCell']) (by omega) (by omega) ?_; intro v6 w6 hown6 hgr6 hob6 hb6; have HW6 := Lib.hid hown6; have HB6 := Lib.hid hb6; clear hgr6 hob6 hb6 hown6)))
              refine ⟨⟨t, out ++ [⟨true, gn⟩], by omega, by go_num, by simp; omega, HE9, Lib.hid ⟨⟨HVL.out.below (HT5.out.S.U.bel.trans (HB6.out.mono (by omega))) (Nat.le_refl _), (HB6.out.block _ (by omega)).trans HT5.out.S.U.bx, HT5.out.S.U.bel.trans (HB6.out.mono (by omega))⟩, ?_⟩⟩, by simp [intOf]⟩
              have h6 := HW6.out
              rw [flat_append, List.length_append]
              exact h6
            · have HE : Hid (Sg.ofR ⟨(x1, y1), (x2, y2), L⟩ ls = none) := Lib.hid (by rw [HE.out, if_neg h0])
              have e0 : (er != 0) = true := by simpa using h0
              go_wp2_with fail
              exact bodyPost_ret (v := .tuple #[.slice none 0 0, .bool false]) (by simp [results, Tryz.results18, go_sem]) rfl ⟨.slice none 0 0, by rw [HE.out]; rfl, by rw [HE.out]; exact slr_nilG _, HT5.out.S.U.bel⟩
          · have hda : decide (a ≤ gn) = false := decide_eq_false ha
            clear hin
            go_wp2_with fail
            go_quiet (fail)
            have HT4 := Lib.hid (HTD.out nq)
            go_wp2_with (first
              | (refine wpList_load_row rfl _ _ rfl w.heap.size rfl _ (sA ⟨(x1, y1), (x2, y2), L⟩ (.slice pL L.length capL)) (0, 0) _ HT4.out.S.U.bx Tryz.underlying44 rfl infoS ?_)
              | (refine wpList_load_row rfl _ _ rfl (W2.heap.size + 1) rfl _ #[.bool true, .int .i64 gn] (0, 0) _ HT4.out.g Tryz.underlying70 rfl infoG ?_))
            refine (HC.out _ HT4.out.S.U.rd).mono ?_
            rintro e w5 ⟨rfl, hb5⟩
            have HT5 := Lib.hid (HT4.out.next hb5)
            clear hb5 HT4
            by_cases h0 : er = 0
            · subst h0
              have HE9 : Hid (Sg.ofR ⟨(x1, y1), (x2, y2), L⟩ ls = (Sg.ofF ⟨(x1, y1), (x2, y2), L⟩ (ls.take t).reverse).map ((out ++ [⟨true, gn⟩]) ++ ·)) := Lib.hid (by rw [HE.out]; simp)
              have hz5 := HT5.out.S.U.bx.lt
              go_wp2_with (first
                | (refine wpList_load_row rfl _ _ rfl (W2.heap.size + 1) rfl _ #[.bool true, .int .i64 gn] (0, 0) _ HT5.out.g Tryz.underlying70 rfl infoG ?_)
                | (at_builtin; go_loud (refine wpList_app elemG rfl (.tmp 65) (.tmp 67) rfl (w.heap.size + 1) u6 _ _ rfl HT5.out.S.own 1 1 [.bool true, .int .i64 gn] rfl rfl (by simp [Value.oneCell']) (by omega) (by omega) ?_; intro v6 w6 hown6 hgr6 hob6 hb6; have HW6 := Lib.hid hown6; have HB6 := Lib.hid hb6; clear hgr6 hob6 hb6 hown6)))
              refine ⟨⟨t, out ++ [⟨true, gn⟩], by omega, by go_num, by simp; omega, HE9, Lib.hid ⟨⟨HVL.out.below (HT5.out.S.U.bel.trans (HB6.out.mono (by omega))) (Nat.le_refl _), (HB6.out.block _ (by omega)).trans HT5.out.S.U.bx, HT5.out.S.U.bel.trans (HB6.out.mono (by omega))⟩, ?_⟩⟩, by simp [intOf]⟩
              have h6 := HW6.out
              rw [flat_append, List.length_append]
              exact h6
            · have HE : Hid (Sg.ofR ⟨(x1, y1), (x2, y2), L⟩ ls = none) := Lib.hid (by rw [HE.out, if_neg h0])
              have e0 : (er != 0) = true := by simpa using h0
              go_wp2_with fail
              exact bodyPost_ret (v := .tuple #[.slice none 0 0, .bool false]) (by simp [results, Tryz.results18, go_sem]) rfl ⟨.slice none 0 0, by rw [HE.out]; rfl, by rw [HE.out]; exact slr_nilG _, HT5.out.S.U.bel⟩
    | zero =>
      have HE2 : Hid (Sg.ofR ⟨(x1, y1), (x2, y2), L⟩ ls = some out) := Lib.hid (by rw [HE.out]; simp [Sg.ofF])
      go_wp2_with fail
      exact bodyPost_ret (v := .tuple #[u6, .bool true]) (by simp [results, Tryz.results18, go_sem]) rfl ⟨_, by rw [HE2.out]; rfl, by rw [HE2.out]; exact SlR.of_owns encG_len HT.out.own, HT.out.U.bel⟩
end Go.Proofs.YtilahcnpjbnjiaaGreatDoor
