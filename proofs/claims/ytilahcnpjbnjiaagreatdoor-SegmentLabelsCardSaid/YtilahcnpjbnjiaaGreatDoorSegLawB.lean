/- Layer 26's laws: SegmentBack. -/
import Derived.Test.YtilahcnpjbnjiaaGreatDoorSegLawL
namespace Go.Proofs.YtilahcnpjbnjiaaGreatDoor
set_option linter.unusedVariables false
set_option linter.unusedSimpArgs false
open Go.RowKit Go.Shelf Go.Proofs Go.OctetPlain

theorem labelsF_err (m : Sp.Spc) : ∀ (l : List Sg.Seg) (out : List Int), (Sg.labelsF m l out).2 ≠ 0 → (Sg.labelsF m l out).1 = []
  | [], out, h => by simp [Sg.labelsF] at h
  | x :: r, out, h => by
    unfold Sg.labelsF at h ⊢
    by_cases hc : (Sg.labelR m x).2 ≠ 0
    · rw [if_pos hc]
    · rw [if_neg hc] at h ⊢
      exact labelsF_err m r _ h
theorem labelsR_err {m : Sp.Spc} {l : List Sg.Seg} (h : (Sg.labelsR m l).2 ≠ 0) : (Sg.labelsR m l).1 = [] := by
  unfold Sg.labelsR at h ⊢
  by_cases hc : 16 < l.length
  · rw [if_pos hc]
  · rw [if_neg hc] at h ⊢
    exact labelsF_err m l [] h
theorem ofF_segs (m : Sp.Spc) : ∀ {ls : List Int} {out : List Sg.Seg}, Sg.ofF m ls = some out → ∀ n ∈ ls, Sg.segR m n ≠ none
  | [], out, h, n, hn => by cases hn
  | c :: r, out, h, n, hn => by
    unfold Sg.ofF at h
    cases h1 : Sg.segR m c with
    | none => rw [h1] at h; cases h
    | some x =>
      cases h2 : Sg.ofF m r with
      | none => rw [h1, h2] at h; cases h
      | some k =>
        rcases List.mem_cons.1 hn with rfl | hn
        · rw [h1]; simp
        · exact ofF_segs m h2 n hn
theorem ofR_segs {m : Sp.Spc} {ls : List Int} {out : List Sg.Seg} (h : Sg.ofR m ls = some out) {n : Int} (hn : n ∈ ls) : Sg.segR m n ≠ none := ofF_segs m h n (by simpa using hn)
/-- a label that is a segment's lies in the first area, or is owned in the second -/
theorem seg_in {m : Sp.Spc} {n : Int} (h : Sg.segR m n ≠ none) (hn : ¬ ((Sp.areaR m 1).1.1 ≤ n ∧ n ≤ (Sp.areaR m 1).1.2)) : (Sp.ownerR m n).1 ≠ 0 ∧ (Sp.ownerR m n).2 = 2 := by
  unfold Sg.segR at h
  rw [if_neg (fun hc => hn hc.2)] at h
  by_cases hc : (Sp.ownerR m n).1 = 0 ∨ (Sp.ownerR m n).2 ≠ 2
  · rw [if_pos hc] at h; exact absurd rfl h
  · omega
/-- in the loop: the space, the area's box, the labels -/
structure LB (w : World) (g : Nat) (r : Option Nat) (m : Sp.Spc) (G : Nat) (a b : Int) (v : Value) (l : List Sg.Seg) (vm vx : Value) (xs : List Int) (W : World) : Prop where
  S : SpcR W g r m
  bg : Blk W G 35 #[.int .i64 a, .int .i64 b]
  hv : SlR W 2 encG v l
  hm : SlR W 2 encG vm l
  hx : SlR W 1 encI vx xs
  bel : Below w.heap.size w W
theorem LB.next {w : World} {g : Nat} {r : Option Nat} {m : Sp.Spc} {G : Nat} {a b : Int} {v : Value} {l : List Sg.Seg} {vm vx : Value} {xs : List Int} {W W' : World} (h : LB w g r m G a b v l vm vx xs W) (hb : Below W.heap.size W W') : LB w g r m G a b v l vm vx xs W' :=
  ⟨h.S.below hb, h.bg.below hb h.bg.lt, h.hv.below hb (Nat.le_refl _), h.hm.below hb (Nat.le_refl _), h.hx.below hb (Nat.le_refl _), h.bel.trans (hb.mono h.bel.size)⟩
set_option maxRecDepth 100000 in
set_option maxHeartbeats 8000000 in
theorem law_back (a b c d : Int) (T : List Sp.S) (hT : T.length ≤ 20) (vT : Value) (l : List Sg.Seg) (hl : l.length ≤ 30) (v : Value) (w : World) (ht : Tabs w)
    (hvT : SlR w 2 encSp vT T) (hv : SlR w 2 encG v l) :
    Calls Tryz.prog 5 #[.agg #[.int .i64 a, .int .i64 b, .int .i64 c, .int .i64 d, vT], v] w fun e w' => e = .returned (.bool true) ∧ Below w.heap.size w w' := by
  have HAW := Lib.hid fun W h => law_awake W h
  have HT := Lib.hid fun W (h : Below w.heap.size w W) => ht.next h (Nat.le_refl _)
  have hwf := laid_wf a b c d T
  have hvT' := hvT
  have hvb := hv
  obtain ⟨pT, cT, rfl, -⟩ := hvT'
  obtain ⟨p, cap, rfl, -⟩ := hv
  have HLD : Hid (∀ W, Below w.heap.size w W → Calls Tryz.prog 14 #[.agg #[.int .i64 a, .int .i64 b, .int .i64 c, .int .i64 d, .slice pT T.length cT]] W fun e w' => ∃ g r p k, e = .returned (.tuple #[.pointer (some ⟨g, 0, none⟩), .agg (sA (laidR a b c d T) (.slice p (laidR a b c d T).L.length k)), .bool true]) ∧ SpcR w' g r (laidR a b c d T) ∧ SlR w' 4 encBk (.slice p (laidR a b c d T).L.length k) (laidR a b c d T).L ∧ Below W.heap.size W w') := Lib.hid fun W h => by
    refine (law_laid a b c d T (by omega) _ W (hvT.below h (Nat.le_refl _))).mono ?_
    rintro e w' ⟨g, r, vL, rfl, h1, h2, h3⟩
    obtain ⟨pL, cL, rfl, -⟩ := id h2
    exact ⟨g, r, pL, cL, rfl, h1, h2, h3⟩
  generalize laidR a b c d T = m at *
  have hml : m.L.length ≤ 1000000 := by omega
  have HLB := Lib.hid fun g r v W h hv => seg_Labels m hwf.1 hml l (by omega) v g r W h hv
  have hxl := labelsR_le m l
  have HOF := Lib.hid fun g r v W h hv => seg_Of m hwf.1 hml (Sg.labelsR m l).1 (by omega) v g r W h hv
  have HAR := Lib.hid fun g r W h => spc_Area' g 1 m hwf.1 r W h
  have HOW := Lib.hid fun g r n W h => spc_Owner g n m hml r W h
  have HPL := Lib.hid fun v W h => law_plain l (by omega) v W h
  have HSM : Hid (∀ va vb W, SlR W 2 encG va l → SlR W 2 encG vb l → Calls Tryz.prog 10 #[va, vb] W fun e w' => e = .returned (.bool true) ∧ Below W.heap.size W w') := Lib.hid fun va vb W h1 h2 => by
    have := r26_Same l l va vb W (by omega) h1 h2
    rw [decide_eq_true rfl] at this
    exact this
  have HER := Lib.hid fun h => labelsR_err (m := m) (l := l) h
  have HOK : Hid ((Sg.labelsR m l).2 = 0 → Sg.ofR m (Sg.labelsR m l).1 = some l ∧ (Sg.labelsR m l).1.length = l.length) := Lib.hid fun h => Sg.of_labels hwf.1 (by rw [← h])
  have HIN := Lib.hid fun n h hn => seg_in (m := m) (n := n) h hn
  have HSG := Lib.hid fun n ls out h hn => ofR_segs (m := m) (ls := ls) (out := out) (n := n) h hn
  generalize Sg.labelsR m l = lb at *
  obtain ⟨xs, er⟩ := lb
  simp only [RetSB, RetII] at HLB HOF HAR HOW HOK HER HIN
  generalize Sp.areaR m 1 = qa at *
  obtain ⟨⟨x1, x2⟩, is⟩ := qa
  simp only at HAR HIN hxl
  clear ht
  go_enter Tryz.func5, Tryz.ntmps5
  go_wp2_with fail
  refine (HAW.out _ (HT.out _ (belowA w _))).mono ?_
  rintro e w1 ⟨rfl, b1⟩
  obtain ⟨k1, b1'⟩ := box_first b1
  have HB1 := Lib.hid b1'
  have HK1 := Lib.hid k1
  have cx0 := k1.cell 0
  have cx1 := k1.cell 1
  have cx2 := k1.cell 2
  have cx3 := k1.cell 3
  have cx4 := k1.cell 4
  simp only [List.getElem?_toArray, List.getElem?_cons_zero, List.getElem?_cons_succ] at cx0 cx1 cx2 cx3 cx4
  clear b1 b1' k1
  go_wp2_with fail
  refine (HLD.out _ HB1.out).mono ?_
  rintro e w2 ⟨g, r, pL, cL, rfl, hS, hD, b2⟩
  have hba := belowA w2 (.cells (sA m (.slice pL m.L.length cL)) 44)
  have hb3 := (HB1.out.trans (b2.mono HB1.out.size)).trans (hba.mono (HB1.out.trans (b2.mono HB1.out.size)).size)
  have HB3 := Lib.hid hb3
  have HS3 := Lib.hid (hS.below hba)
  have HD3 := Lib.hid (hD.below hba (Nat.le_refl _))
  have HZ3 := Lib.hid (Blk.new w2 44 (sA m (.slice pL m.L.length cL)))
  clear b2 hS hD hba hb3
  go_wp2_with (refine wpList_store_newS rfl _ _ _ rfl (sA m (.slice pL m.L.length cL)) rfl rfl _ _ infoS rfl (oneS _ _ _ _) ?_)
  refine (HLB.out g r _ _ HS3.out (hvb.below HB3.out (Nat.le_refl _))).mono ?_
  rintro e w4 ⟨vx, rfl, hx4, b4⟩
  have HB4 := Lib.hid (HB3.out.trans (b4.mono HB3.out.size))
  have HS4 := Lib.hid (HS3.out.below b4)
  have HX4 := Lib.hid hx4
  obtain ⟨px, kx, rfl, -⟩ := hx4
  clear b4 HS3 HD3 HZ3 HB3
  by_cases h0 : er = 0
  · subst h0
    obtain ⟨ho, hxx⟩ := HOK.out rfl
    rw [ho] at HOF
    simp only [Option.isSome, Option.getD] at HOF
    have HO := Lib.hid ho
    have HXX := Lib.hid hxx
    have hx30 : xs.length ≤ 30 := by omega
    clear ho hxx hxl
    go_wp2_with fail
    refine (HOF.out g r _ _ HS4.out HX4.out).mono ?_
    rintro e w5 ⟨vm, rfl, hm5, b5⟩
    have HB5 := Lib.hid (HB4.out.trans (b5.mono HB4.out.size))
    have HS5 := Lib.hid (HS4.out.below b5)
    have HX5 := Lib.hid (HX4.out.below b5 (Nat.le_refl _))
    have HM5 := Lib.hid hm5
    clear b5 hm5 HB4 HS4 HX4
    go_wp2_with fail
    refine (HAR.out g r _ HS5.out).mono ?_
    rintro e w6 ⟨rfl, b6⟩
    have hba := b6.trans ((belowA w6 (.cells #[.int .i64 x1, .int .i64 x2] 35)).mono b6.size)
    have HL6 : Hid (LB w g r m w6.heap.size x1 x2 (.slice p l.length cap) l vm (.slice px xs.length kx) xs (w6.alloc (.cells #[.int .i64 x1, .int .i64 x2] 35))) := Lib.hid ⟨HS5.out.below hba, Blk.new w6 _ _, hvb.below (HB5.out.trans (hba.mono HB5.out.size)) (Nat.le_refl _), HM5.out.below hba (Nat.le_refl _), HX5.out.below hba (Nat.le_refl _), HB5.out.trans (hba.mono HB5.out.size)⟩
    clear b6 hba HB5 HS5 HX5 HM5
    go_wp2_with fail
    generalize w6.heap.size = G at *
    go_loopw [15] (fun vi wr => ∃ k : Nat, vi = .int .i64 k ∧ k ≤ xs.length ∧ Hid (LB w g r m G x1 x2 (.slice p l.length cap) l vm (.slice px xs.length kx) xs wr)) (fun vi _ => xs.length - (intOf vi).toNat)
    case atStart => exact ⟨0, rfl, Nat.zero_le _, HL6⟩
    case round =>
      clear HL6
      obtain ⟨k, rfl, hk, HL⟩ := hrel
      by_cases hlt : k < xs.length
      · obtain ⟨q, c', hq, -, -, hRx⟩ := HL.out.hx
        obtain ⟨rfl, -, rfl⟩ : px = q ∧ _ ∧ kx = c' := by injection hq with h1 h2 h3; exact ⟨h1, h2, h3⟩
        obtain ⟨bx, ox, rfl, hbx, hcx⟩ := hRx.at hlt
        have hx0 := hcx 0 (.int .i64 xs[k]) rfl
        simp only [Nat.mul_one, Nat.add_zero] at hx0
        have HW := Lib.hid (HOW.out g r xs[k] _ HL.out.S)
        have HI := Lib.hid (HIN.out xs[k] (HSG.out _ _ _ HO.out (List.getElem_mem hlt)))
        generalize xs[k] = x at *
        generalize Sp.ownerR m x = oq at *
        obtain ⟨o1, o2⟩ := oq
        simp only [RetII] at HW HI
        clear hq hRx hcx
        go_wp2_with fail
        refine HW.out.mono ?_
        rintro e w7 ⟨rfl, b7⟩
        have HL7 := Lib.hid (HL.out.next b7)
        have hx7 : w7.cell? ⟨bx, ox + k, none⟩ = some (.int .i64 x) := (b7.cell (p := ⟨bx, ox + k, none⟩) hbx).trans hx0
        have cg0 := HL7.out.bg.cell 0
        have cg1 := HL7.out.bg.cell 1
        simp only [List.getElem?_toArray, List.getElem?_cons_zero, List.getElem?_cons_succ] at cg0 cg1
        have hbx7 : bx < w7.heap.size := Nat.lt_of_lt_of_le hbx b7.size
        clear b7 hx0 hbx HL HW
        by_cases hin : x1 ≤ x ∧ x ≤ x2
        · obtain ⟨hi1, hi2⟩ := hin
          go_wp2_with fail
          go_quiet (fail)
          go_wp2_with fail
          exact ⟨⟨k + 1, by go_num, by omega, Lib.hid (HL7.out.next (below_drewN (Below.refl _ _) _))⟩, by simp [intOf]; omega⟩
        · obtain ⟨ho1, ho2⟩ := HI.out hin
          subst ho2
          have e1 : (o1 == 0) = false := by simpa using ho1
          by_cases hi1 : x1 ≤ x
          · have hi2 : ¬ x ≤ x2 := fun h => hin ⟨hi1, h⟩
            clear hin
            have d1 : decide (x1 ≤ x) = true := decide_eq_true hi1
            have d2 : decide (x ≤ x2) = false := decide_eq_false hi2
            go_wp2_with fail
            go_quiet (fail)
            go_wp2_with fail
            exact ⟨⟨k + 1, by go_num, by omega, Lib.hid (HL7.out.next (below_drewN (Below.refl _ _) _))⟩, by simp [intOf]; omega⟩
          · clear hin
            have d1 : decide (x1 ≤ x) = false := decide_eq_false hi1
            go_wp2_with fail
            go_quiet (fail)
            go_wp2_with fail
            exact ⟨⟨k + 1, by go_num, by omega, Lib.hid (HL7.out.next (below_drewN (Below.refl _ _) _))⟩, by simp [intOf]; omega⟩
      · obtain rfl : k = xs.length := by omega
        go_wp2_with fail
        refine (HPL.out _ _ HL.out.hm).mono ?_
        rintro e w7 ⟨vp, rfl, hp, b7⟩
        have HL7 := Lib.hid (HL.out.next b7)
        have HP7 := Lib.hid hp
        clear b7 hp HL
        go_wp2_with fail
        refine (HPL.out _ _ HL7.out.hv).mono ?_
        rintro e w8 ⟨vq, rfl, hq, b8⟩
        have HL8 := Lib.hid (HL7.out.next b8)
        have HP8 := Lib.hid (HP7.out.below b8 (Nat.le_refl _))
        have HQ8 := Lib.hid hq
        clear b8 hq HL7 HP7
        go_wp2_with fail
        refine (HSM.out _ _ _ HP8.out HQ8.out).mono ?_
        rintro e w9 ⟨rfl, b9⟩
        have HL9 := Lib.hid (HL8.out.next b9)
        clear b9 HL8 HP8 HQ8
        go_wp2_with fail
        go_ret
        exact ⟨by rw [HXX.out]; simp, HL9.out.bel⟩
  · have hx0 := HER.out h0
    subst hx0
    have e0 : (er != 0) = true := by simpa using h0
    go_wp2_with fail
    go_ret
    exact ⟨by simp, HB4.out⟩
end Go.Proofs.YtilahcnpjbnjiaaGreatDoor
