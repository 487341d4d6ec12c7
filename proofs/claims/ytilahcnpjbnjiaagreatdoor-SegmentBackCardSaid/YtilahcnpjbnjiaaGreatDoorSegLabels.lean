/- segment.Labels; footplateref26.Labels. -/
import Derived.Test.YtilahcnpjbnjiaaGreatDoorMSegC
import Derived.Test.YtilahcnpjbnjiaaGreatDoorMSegB
import Derived.Test.YtilahcnpjbnjiaaGreatDoorMBase
namespace Go.Proofs.YtilahcnpjbnjiaaGreatDoor
set_option linter.unusedVariables false
set_option linter.unusedSimpArgs false
open Go.RowKit Go.Shelf Go.Proofs Go.OctetPlain

theorem labelsF_step (m : Sp.Spc) {l : List Sg.Seg} {k : Nat} (h : k < l.length) (xs : List Int) : Sg.labelsF m (l.drop k) xs = if (Sg.labelR m l[k]).2 ≠ 0 then ([], (Sg.labelR m l[k]).2) else Sg.labelsF m (l.drop (k + 1)) ((Sg.labelR m l[k]).1 :: xs) := by
  rw [List.drop_eq_getElem_cons h, Sg.labelsF]
structure LbS (m : Sp.Spc) (l : List Sg.Seg) (w : World) (g : Nat) (wr : World) (k : Nat) (ns : List Int) (vo : Value) : Prop where
  own : wr.ownsRow (w.heap.size + 1) 3 1 vo ns.length (flat encI ns)
  bel : Below w.heap.size w wr
  pb : Blk wr w.heap.size 40 #[.pointer (some ⟨g, 0, none⟩)]
  eq : Sg.labelsF m l [] = Sg.labelsF m (l.drop k) ns.reverse
  len : ns.length = k
theorem slr_nilI (w : World) : SlR w 1 encI (.slice none 0 0) [] := ⟨none, 0, rfl, Nat.le_refl _, by omega, ⟨fun _ => rfl, fun a ha => by cases ha⟩⟩
set_option maxRecDepth 100000 in
set_option maxHeartbeats 2000000 in
theorem seg_Labels (m : Sp.Spc) (hm : Sp.WF m) (hml : m.L.length ≤ 1000000) (l : List Sg.Seg) (hl : l.length ≤ 1000000) (v : Value) (g : Nat) (r : Option Nat) (w : World) (h : SpcR w g r m) (hv : SlR w 2 encG v l) :
    Calls Tryz.prog 15 #[.pointer (some ⟨g, 0, none⟩), v] w fun e w' => ∃ v', e = .returned (.tuple #[v', .int .i64 (Sg.labelsR m l).2]) ∧ SlR w' 1 encI v' (Sg.labelsR m l).1 ∧ Below w.heap.size w w' := by
  obtain ⟨p, cap, rfl, hd1, hd2, hR⟩ := hv
  have HR := Lib.hid hR
  have B0 := Lib.hid fun o => belowA w o
  by_cases h16 : 16 < l.length
  · have HE : Hid (Sg.labelsR m l = ([], 51)) := Lib.hid (if_pos h16)
    rw [HE.out]
    clear hR
    go_enter Tryz.func15, Tryz.ntmps15
    go_wp2_with fail
    exact bodyPost_ret (v := .tuple #[.slice none 0 0, .int .i64 51]) (by simp [results, Tryz.results15, go_sem]) rfl ⟨.slice none 0 0, rfl, slr_nilI _, B0.out _⟩
  · have HE : Hid (Sg.labelsR m l = Sg.labelsF m l []) := Lib.hid (if_neg h16)
    rw [HE.out]
    have HS := Lib.hid fun W (hW : Below w.heap.size w W) => h.below hW
    have HL := Lib.hid fun x W h1 h2 => seg_label m hm hml x g w.heap.size r W h1 h2
    have H0 : Hid (LbS m l w g (w.alloc (.cells #[.pointer (some ⟨g, 0, none⟩)] 40)) 0 [] (.slice none 0 0)) := Lib.hid ⟨World.ownsRow_nil _ _ _ _, B0.out _, Blk.new _ _ _, rfl, rfl⟩
    clear hR h hm HE
    go_enter Tryz.func15, Tryz.ntmps15
    go_wp2_with fail
    go_loopw [7, 18] (fun vo i wr => ∃ (k : Nat) (ns : List Int), k ≤ l.length ∧ i = .int .i64 k ∧ Hid (LbS m l w g wr k ns vo)) (fun _ i _ => l.length - (intOf i).toNat)
    case atStart => exact ⟨0, [], Nat.zero_le _, rfl, H0⟩
    case round =>
      obtain ⟨k, ns, hk, rfl, HT⟩ := hrel
      have hns := HT.out.len
      have hz := HT.out.pb.lt
      by_cases hlt : k < l.length
      · obtain ⟨b, off, rfl, hbs, hx0, hx1⟩ := (HR.out.below HT.out.bel (Nat.le_refl _)).atG hlt
        have HE := HT.out.eq
        rw [labelsF_step m hlt] at HE
        have HC := HL.out l[k]
        generalize hq : Sg.labelR m l[k] = q at *
        obtain ⟨n, er⟩ := q
        clear hq
        generalize l[k] = x at *
        obtain ⟨lk, xn⟩ := x
        simp only at hx0 hx1 HC HE
        have HE := Lib.hid HE
        have HC := Lib.hid HC
        have HB1 := Lib.hid (HT.out.bel.alloc HT.out.bel.size (.cells #[.bool lk, .int .i64 xn] 65))
        have HP1 := Lib.hid (HT.out.pb.alloc (.cells #[.bool lk, .int .i64 xn] 65))
        have HO1 := Lib.hid (owns_below HT.out.own (belowA wr (.cells #[.bool lk, .int .i64 xn] 65)) (Nat.le_refl _))
        go_wp2_with fail
        refine (HC.out _ (HS.out _ HB1.out) HP1.out).mono ?_
        rintro e w2 ⟨rfl, b2⟩
        have HB2 := Lib.hid (HB1.out.trans (b2.mono HB1.out.size))
        have HP2 := Lib.hid (HP1.out.below b2 HP1.out.lt)
        have HO2 := Lib.hid (owns_below HO1.out b2 (Nat.le_refl _))
        have hz2 := HP2.out.lt
        clear b2 hx0 hx1
        by_cases h0 : er = 0
        · subst h0
          have HE : Hid (Sg.labelsF m l [] = Sg.labelsF m (l.drop (k + 1)) (n :: ns.reverse)) := Lib.hid (by rw [HE.out]; simp)
          go_wp2_with (at_builtin; go_loud (refine wpList_app elemI rfl (.tmp 31) (.tmp 33) rfl (w.heap.size + 1) u7 _ _ rfl HO2.out 1 1 [.int .i64 _] rfl rfl (by simp [Value.oneCell']) (by omega) (by omega) ?_; intro v4 w4 hown4 hgr4 hob4 hb4; have HB4 := Lib.hid hb4; have HW4 := Lib.hid hown4; clear hgr4 hob4 hb4 hown4))
          refine ⟨⟨k + 1, ns ++ [n], by omega, by go_num, Lib.hid ⟨?_, HB2.out.trans (HB4.out.mono (by omega)), (HB4.out.block _ (by omega)).trans HP2.out, by rw [HE.out]; simp, by simp; omega⟩⟩, by simp [intOf]; omega⟩
          have h4 := HW4.out
          rw [flat_append, List.length_append]
          exact h4
        · have HE : Hid (Sg.labelsF m l [] = ([], er)) := Lib.hid (by rw [HE.out, if_pos h0])
          have e0 : (er != 0) = true := by simpa using h0
          go_wp2_with fail
          exact bodyPost_ret (v := .tuple #[.slice none 0 0, .int .i64 er]) (by simp [results, Tryz.results15, go_sem]) rfl ⟨.slice none 0 0, by rw [HE.out], by rw [HE.out]; exact slr_nilI _, HB2.out⟩
      · obtain rfl : k = l.length := by omega
        have HE : Hid (Sg.labelsF m l [] = (ns.reverse, 0)) := Lib.hid (by rw [HT.out.eq, List.drop_length, Sg.labelsF])
        have HV := Lib.hid (revI_any ns (by omega) _ _ _ HT.out.own)
        go_wp2_with fail
        refine HV.out.mono ?_
        rintro e w2 ⟨rfl, ho, hb⟩
        have HO := Lib.hid ho
        have HB := Lib.hid (HT.out.bel.trans (hb.mono (by omega)))
        clear ho hb
        go_wp2_with fail
        refine bodyPost_ret (v := .tuple #[u7, .int .i64 0]) (by simp [results, Tryz.results15, go_sem]) rfl ⟨_, by rw [HE.out], ?_, HB.out⟩
        rw [HE.out]
        have h := HO.out
        rw [← List.length_reverse] at h
        exact SlR.of_owns encI_len h
structure RlS (m : Sp.Spc) (vL : Value) (w : World) (wr : World) (xs : List Int) (vo : Value) : Prop where
  U : QU w wr w.heap.size m vL
  own : wr.ownsRow (w.heap.size + 1) 3 1 vo xs.length (flat encI xs)
theorem RlS.next {m : Sp.Spc} {vL : Value} {w wr W : World} {xs : List Int} {vo : Value} (h : RlS m vL w wr xs vo) (hb : Below wr.heap.size wr W) : RlS m vL w W xs vo := ⟨h.U.next hb, owns_below h.own hb (Nat.le_refl _)⟩
structure RlR (m : Sp.Spc) (vL : Value) (w : World) (xs : List Int) (vo : Value) (b o : Nat) (lk : Bool) (n : Int) (W : World) : Prop where
  S : RlS m vL w W xs vo
  bs : b < W.heap.size
  c0 : W.cell? ⟨b, o, none⟩ = some (.bool lk)
  c1 : W.cell? ⟨b, o + 1, none⟩ = some (.int .i64 n)
theorem RlR.next {m : Sp.Spc} {vL : Value} {w : World} {xs : List Int} {vo : Value} {b o : Nat} {lk : Bool} {n : Int} {W W' : World} (h : RlR m vL w xs vo b o lk n W) (hb : Below W.heap.size W W') : RlR m vL w xs vo b o lk n W' :=
  ⟨h.S.next hb, Nat.lt_of_lt_of_le h.bs hb.size, (hb.cell (p := ⟨b, o, none⟩) h.bs).trans h.c0, (hb.cell (p := ⟨b, o + 1, none⟩) h.bs).trans h.c1⟩
set_option maxRecDepth 100000 in
set_option maxHeartbeats 4000000 in
theorem r26_Labels (m : Sp.Spc) (hm : Sp.WF m) (hml : m.L.length ≤ 1000000) (l : List Sg.Seg) (hl : l.length ≤ 1000000) (v vL : Value) (w : World) (hvL : SlR w 4 encBk vL m.L) (hv : SlR w 2 encG v l) :
    Calls Tryz.prog 16 #[.agg (sA m vL), v] w fun e w' => ∃ v', e = .returned (.tuple #[v', .int .i64 (Sg.labelsR m l).2]) ∧ SlR w' 1 encI v' (Sg.labelsR m l).1 ∧ Below w.heap.size w w' := by
  have HQ0 := Lib.hid (QU.first w m vL hvL)
  have HL := Lib.hid fun x W hW => r26_label m hm hml x vL W hW
  have HVL := Lib.hid hvL
  obtain ⟨pL, capL, rfl, -⟩ := hvL
  obtain ⟨p, cap, rfl, hd1, hd2, hR⟩ := hv
  have HR := Lib.hid hR
  clear hR
  by_cases h16 : 16 < l.length
  · have HE : Hid (Sg.labelsR m l = ([], 51)) := Lib.hid (if_pos h16)
    rw [HE.out]
    clear HL HE
    obtain ⟨⟨x1, y1⟩, ⟨x2, y2⟩, L⟩ := m
    simp only [sA] at HQ0 ⊢
    go_enter Tryz.func16, Tryz.ntmps16
    go_wp2_with fail
    exact bodyPost_ret (v := .tuple #[.slice none 0 0, .int .i64 51]) (by simp [results, Tryz.results16, go_sem]) rfl ⟨.slice none 0 0, rfl, slr_nilI _, HQ0.out.bel⟩
  · have HE : Hid (Sg.labelsR m l = Sg.labelsF m l []) := Lib.hid (if_neg h16)
    rw [HE.out]
    have H0 : Hid (RlS m (.slice pL m.L.length capL) w (w.alloc (.cells (sA m (.slice pL m.L.length capL)) 44)) [] (.slice none 0 0)) := Lib.hid ⟨HQ0.out, World.ownsRow_nil _ _ _ _⟩
    clear hm HE HQ0
    obtain ⟨⟨x1, y1⟩, ⟨x2, y2⟩, L⟩ := m
    simp only [sA] at HL H0 ⊢
    go_enter Tryz.func16, Tryz.ntmps16
    go_wp2_with fail
    go_loopw [6, 7] (fun vo i wr => ∃ (k : Nat) (xs : List Int), k ≤ l.length ∧ i = .int .i64 k ∧ xs.length = k ∧ Hid (Sg.labelsF ⟨(x1, y1), (x2, y2), L⟩ l [] = Sg.labelsF ⟨(x1, y1), (x2, y2), L⟩ (l.drop k) xs) ∧ Hid (RlS ⟨(x1, y1), (x2, y2), L⟩ (.slice pL L.length capL) w wr xs vo)) (fun _ i _ => l.length - (intOf i).toNat)
    case atStart => exact ⟨0, [], Nat.zero_le _, rfl, rfl, Lib.hid rfl, H0⟩
    case round =>
      clear H0
      obtain ⟨k, xs, hk, rfl, hxs, HE, HT⟩ := hrel
      have hz := HT.out.U.bx.lt
      by_cases hlt : k < l.length
      · obtain ⟨b, off, rfl, hbs, hx0, hx1⟩ := (HR.out.below HT.out.U.bel (Nat.le_refl _)).atG hlt
        have HE := HE.out
        rw [labelsF_step _ hlt] at HE
        have HC := HL.out l[k]
        generalize hq : Sg.labelR ⟨(x1, y1), (x2, y2), L⟩ l[k] = q at *
        obtain ⟨n, er⟩ := q
        clear hq
        generalize l[k] = x at *
        obtain ⟨lk, xn⟩ := x
        simp only at hx0 hx1 HC HE
        have HE := Lib.hid HE
        have HC := Lib.hid HC
        have HS1 : Hid (RlR ⟨(x1, y1), (x2, y2), L⟩ (.slice pL L.length capL) w xs u6 b (off + k * 2) lk xn wr) := Lib.hid ⟨HT.out, hbs, hx0, hx1⟩
        clear HT hx0 hx1
        go_wp2_with fail
        refine wp_region_held_drew (S := fun W => RlR ⟨(x1, y1), (x2, y2), L⟩ (.slice pL L.length capL) w xs u6 b (off + k * 2) lk xn W) (by kernel_rfl) (HS1.out.next (Below.refl _ _).drew) (fun hHeld => ?_)
        refine wpAnyH_take (i := 0) rfl (by kernel_rfl) (by kernel_rfl) (by kernel_rfl) (fun _ _ _ h => h) (yieldsIf_load_row (by rfl) _ _ rfl (w.heap.size) rfl _ (sA ⟨(x1, y1), (x2, y2), L⟩ (.slice pL L.length capL)) _ (fun w h => h.S.U.bx) Tryz.underlying44 rfl infoS) (by assumption) ?_
        simp only [Act.put, List.setIfInBounds_toArray, List.set_cons_zero, List.set_cons_succ, List.getElem_toArray, List.getElem_cons_zero, List.getElem_cons_succ]
        refine wpAnyH_take (i := 1) (v := ?_) rfl (by kernel_rfl) (by kernel_rfl) (by kernel_rfl) (fun _ _ _ h => h) (Or.inl ⟨by rfl, ?_⟩) (by assumption) ?_
        rotate_left
        · intro w hSw; go_simp; try with_reducible rfl
        simp only [Act.put, List.setIfInBounds_toArray, List.set_cons_zero, List.set_cons_succ, List.getElem_toArray, List.getElem_cons_zero, List.getElem_cons_succ]
        refine wpAnyH_take (i := 2) (v := ?_) rfl (by kernel_rfl) (by kernel_rfl) (by kernel_rfl) (fun _ _ _ h => h) (Or.inl ⟨by rfl, ?_⟩) (by assumption) ?_
        rotate_left
        · intro w hSw; go_simp; try with_reducible rfl
        simp only [Act.put, List.setIfInBounds_toArray, List.set_cons_zero, List.set_cons_succ, List.getElem_toArray, List.getElem_cons_zero, List.getElem_cons_succ]
        refine wpAnyH_take (i := 3) (v := ?_) rfl (by kernel_rfl) (by kernel_rfl) (by kernel_rfl) (fun _ _ _ h => h) (Or.inl ⟨by rfl, ?_⟩) (by assumption) ?_
        rotate_left
        · intro w hSw; go_simp; try with_reducible rfl
        simp only [Act.put, List.setIfInBounds_toArray, List.set_cons_zero, List.set_cons_succ, List.getElem_toArray, List.getElem_cons_zero, List.getElem_cons_succ]
        refine wpAnyH_take (i := 4) (v := ?_) rfl (by kernel_rfl) (by kernel_rfl) (by kernel_rfl) (fun _ _ _ h => h) (Or.inl ⟨by rfl, ?_⟩) (by assumption) ?_
        rotate_left
        · intro w h; have c0 := h.c0; have c1 := h.c1; go_simp; try with_reducible rfl
        simp only [Act.put, List.setIfInBounds_toArray, List.set_cons_zero, List.set_cons_succ, List.getElem_toArray, List.getElem_cons_zero, List.getElem_cons_succ]
        refine held_step (i := 5) rfl (by kernel_rfl) (by rfl) (fun K hK => ?_)
        go_simp
        refine (HC.out _ hHeld.S.U.rd).mono ?_; rintro e w5 ⟨rfl, hb5⟩; have HV5 := hHeld.next hb5
        go_wp2_with fail
        refine hK.out _ _ (HV5) (fun hHeld => ?_)
        clear hK K
        try simp only [Act.put, List.setIfInBounds_toArray, List.set_cons_zero, List.set_cons_succ, List.getElem_toArray, List.getElem_cons_zero, List.getElem_cons_succ]
        refine wpAnyH_take (i := 6) (v := ?_) rfl (by kernel_rfl) (by kernel_rfl) (by kernel_rfl) (fun _ _ _ h => h) (Or.inl ⟨by rfl, ?_⟩) (by assumption) ?_
        rotate_left
        · intro w hSw; go_simp; try with_reducible rfl
        simp only [Act.put, List.setIfInBounds_toArray, List.set_cons_zero, List.set_cons_succ, List.getElem_toArray, List.getElem_cons_zero, List.getElem_cons_succ]
        refine wpAnyH_take (i := 7) (v := ?_) rfl (by kernel_rfl) (by kernel_rfl) (by kernel_rfl) (fun _ _ _ h => h) (Or.inl ⟨by rfl, ?_⟩) (by assumption) ?_
        rotate_left
        · intro w hSw; go_simp; try with_reducible rfl
        simp only [Act.put, List.setIfInBounds_toArray, List.set_cons_zero, List.set_cons_succ, List.getElem_toArray, List.getElem_cons_zero, List.getElem_cons_succ]
        refine wpAnyH_take (i := 8) (v := ?_) rfl (by kernel_rfl) (by kernel_rfl) (by kernel_rfl) (fun _ _ _ h => h) (Or.inl ⟨by rfl, ?_⟩) (by assumption) ?_
        rotate_left
        · intro w hSw; go_simp; try with_reducible rfl
        simp only [Act.put, List.setIfInBounds_toArray, List.set_cons_zero, List.set_cons_succ, List.getElem_toArray, List.getElem_cons_zero, List.getElem_cons_succ]
        refine wpAnyH_take (i := 9) (v := ?_) rfl (by kernel_rfl) (by kernel_rfl) (by kernel_rfl) (fun _ _ _ h => h) (Or.inl ⟨by rfl, ?_⟩) (by assumption) ?_
        rotate_left
        · intro w hSw; go_simp; try with_reducible rfl
        simp only [Act.put, List.setIfInBounds_toArray, List.set_cons_zero, List.set_cons_succ, List.getElem_toArray, List.getElem_cons_zero, List.getElem_cons_succ]
        refine wpAnyH_take (i := 10) (v := ?_) rfl (by kernel_rfl) (by kernel_rfl) (by kernel_rfl) (fun _ _ _ h => h) (Or.inl ⟨by rfl, ?_⟩) (by assumption) ?_
        rotate_left
        · intro w hSw; go_simp; try with_reducible rfl
        simp only [Act.put, List.setIfInBounds_toArray, List.set_cons_zero, List.set_cons_succ, List.getElem_toArray, List.getElem_cons_zero, List.getElem_cons_succ]
        refine wpAnyH_done (by kernel_rfl) ?_ _
        have HT5 := Lib.hid hHeld.S
        clear hHeld
        by_cases h0 : er = 0
        · subst h0
          have HE : Hid (Sg.labelsF ⟨(x1, y1), (x2, y2), L⟩ l [] = Sg.labelsF ⟨(x1, y1), (x2, y2), L⟩ (l.drop (k + 1)) (n :: xs)) := Lib.hid (by rw [HE.out]; simp)
          obtain ⟨p3, c3, hvo, -, -, hR3⟩ := SlR.of_owns encI_len HT5.out.own
          subst hvo
          have HR3 := Lib.hid (hR3.below (belowA w5 (.cells #[.int .i64 n] 3)) (Nat.le_refl _))
          have HB5 := Lib.hid (HT5.out.U.next (belowA w5 (.cells #[.int .i64 n] 3)))
          have HO5 := Lib.hid (owns_base (owns_lit w5 3 #[.int .i64 n] 1 rfl (by omega)) HT5.out.U.bx.lt)
          clear hR3
          go_wp2_with (at_builtin; go_loud (refine wpList_app_sl elemI rfl (.tmp 34) (.tmp 35) rfl (w.heap.size + 1) _ 1 [.int .i64 n] rfl HO5.out encI encI_len p3 c3 xs rfl HR3.out encI_one (by omega) (HB5.out.bx.lt) ?_; intro v6 w6 hown6 _ _ hb6; have HW6 := Lib.hid hown6; have HB6 := Lib.hid hb6; clear hown6 hb6))
          refine ⟨⟨k + 1, n :: xs, by omega, by go_num, by simp; omega, HE, Lib.hid ⟨⟨HVL.out.below (HB5.out.bel.trans (HB6.out.mono (by omega))) (Nat.le_refl _), (HB6.out.block _ (by omega)).trans HB5.out.bx, HB5.out.bel.trans (HB6.out.mono (by omega))⟩, ?_⟩⟩, by simp [intOf]; omega⟩
          have h6 := HW6.out
          rw [Nat.add_comm 1 xs.length] at h6
          exact h6
        · have HE : Hid (Sg.labelsF ⟨(x1, y1), (x2, y2), L⟩ l [] = ([], er)) := Lib.hid (by rw [HE.out, if_pos h0])
          have e0 : (er != 0) = true := by simpa using h0
          go_wp2_with fail
          exact bodyPost_ret (v := .tuple #[.slice none 0 0, .int .i64 er]) (by simp [results, Tryz.results16, go_sem]) rfl ⟨.slice none 0 0, by rw [HE.out], by rw [HE.out]; exact slr_nilI _, HT5.out.U.bel⟩
      · obtain rfl : k = l.length := by omega
        have HE2 : Hid (Sg.labelsF ⟨(x1, y1), (x2, y2), L⟩ l [] = (xs, 0)) := Lib.hid (by rw [HE.out, List.drop_length, Sg.labelsF])
        go_wp2_with fail
        exact bodyPost_ret (v := .tuple #[u6, .int .i64 0]) (by simp [results, Tryz.results16, go_sem]) rfl ⟨_, by rw [HE2.out], by rw [HE2.out]; exact SlR.of_owns encI_len HT.out.own, HT.out.U.bel⟩
end Go.Proofs.YtilahcnpjbnjiaaGreatDoor
