/- Layer 26's laws: SegmentLabels. -/
import Derived.Test.YtilahcnpjbnjiaaGreatDoorSegAwake
import Derived.Test.YtilahcnpjbnjiaaGreatDoorSegRefOf
import Derived.Test.YtilahcnpjbnjiaaGreatDoorMSegC
namespace Go.Proofs.YtilahcnpjbnjiaaGreatDoor
set_option linter.unusedVariables false
set_option linter.unusedSimpArgs false
open Go.RowKit Go.Shelf Go.Proofs Go.OctetPlain

def hopL (ls : List Int) : Hp.Hop := ⟨0, ls, 0, 0, [], false⟩
theorem labelsF_le (m : Sp.Spc) : ∀ (l : List Sg.Seg) (out : List Int), (Sg.labelsF m l out).1.length ≤ l.length + out.length
  | [], out => by simp [Sg.labelsF]
  | x :: r, out => by
    unfold Sg.labelsF
    split
    · simp
    · have := labelsF_le m r ((Sg.labelR m x).1 :: out)
      simp at this ⊢; omega
theorem labelsR_le (m : Sp.Spc) (l : List Sg.Seg) : (Sg.labelsR m l).1.length ≤ l.length := by
  unfold Sg.labelsR
  split
  · simp
  · simpa using labelsF_le m l []
theorem ofF_len (m : Sp.Spc) : ∀ {ls : List Int} {out : List Sg.Seg}, Sg.ofF m ls = some out → out.length = ls.length
  | [], out, h => by cases h; rfl
  | n :: r, out, h => by
    unfold Sg.ofF at h
    cases h1 : Sg.segR m n with
    | none => rw [h1] at h; cases h
    | some x =>
      cases h2 : Sg.ofF m r with
      | none => rw [h1, h2] at h; cases h
      | some k => rw [h1, h2] at h; cases h; simp [ofF_len m h2]
theorem ofR_le (m : Sp.Spc) (ls : List Int) : ((Sg.ofR m ls).getD []).length ≤ ls.length := by
  cases h : Sg.ofR m ls with
  | none => simp
  | some k => have := ofF_len m h; simp at this ⊢; omega
/-- what stays: both spaces, the arguments, the first answer -/
structure LS (w : World) (g : Nat) (r : Option Nat) (m : Sp.Spc) (Z : Nat) (vd v : Value) (l : List Sg.Seg) (vs : Value) (ls : List Int) (vx : Value) (xs : List Int) (W : World) : Prop where
  S : SpcR W g r m
  D : SlR W 4 encBk vd m.L
  b : Blk W Z 44 (sA m vd)
  hv : SlR W 2 encG v l
  hs : SlR W 1 encI vs ls
  hx : SlR W 1 encI vx xs
  bel : Below w.heap.size w W
theorem LS.next {w : World} {g : Nat} {r : Option Nat} {m : Sp.Spc} {Z : Nat} {vd v : Value} {l : List Sg.Seg} {vs : Value} {ls : List Int} {vx : Value} {xs : List Int} {W W' : World} (h : LS w g r m Z vd v l vs ls vx xs W) (hb : Below W.heap.size W W') : LS w g r m Z vd v l vs ls vx xs W' :=
  ⟨h.S.below hb, h.D.below hb (Nat.le_refl _), h.b.below hb h.b.lt, h.hv.below hb (Nat.le_refl _), h.hs.below hb (Nat.le_refl _), h.hx.below hb (Nat.le_refl _), h.bel.trans (hb.mono h.bel.size)⟩
/-- a law's areas in its box -/
theorem box_first {w W : World} {t : TypeId} {cs : Array Value} (hb : Below (w.alloc (.cells cs t)).heap.size (w.alloc (.cells cs t)) W) : Blk W w.heap.size t cs ∧ Below w.heap.size w W := ⟨(Blk.new w t cs).below hb (by simp), belowA2 hb⟩
set_option maxRecDepth 100000 in
set_option maxHeartbeats 8000000 in
theorem law_labels (a b c d : Int) (T : List Sp.S) (hT : T.length ≤ 20) (vT : Value) (l : List Sg.Seg) (hl : l.length ≤ 30) (v : Value) (ls : List Int) (hls : ls.length ≤ 30) (vs : Value) (w : World) (ht : Tabs w)
    (hvT : SlR w 2 encSp vT T) (hv : SlR w 2 encG v l) (hvs : SlR w 1 encI vs ls) :
    Calls Tryz.prog 4 #[.agg #[.int .i64 a, .int .i64 b, .int .i64 c, .int .i64 d, vT], v, vs] w fun e w' => e = .returned (.bool true) ∧ Below w.heap.size w w' := by
  have HAW := Lib.hid fun W h => law_awake W h
  have HT := Lib.hid fun W (h : Below w.heap.size w W) => ht.next h (Nat.le_refl _)
  have hwf := laid_wf a b c d T
  have hvT' := hvT
  have hvb := hv
  have hvsb := hvs
  obtain ⟨pT, cT, rfl, -⟩ := hvT'
  obtain ⟨p, cap, rfl, -⟩ := hv
  obtain ⟨ps, cs, rfl, -⟩ := hvs
  have HLD : Hid (∀ W, Below w.heap.size w W → Calls Tryz.prog 14 #[.agg #[.int .i64 a, .int .i64 b, .int .i64 c, .int .i64 d, .slice pT T.length cT]] W fun e w' => ∃ g r p k, e = .returned (.tuple #[.pointer (some ⟨g, 0, none⟩), .agg (sA (laidR a b c d T) (.slice p (laidR a b c d T).L.length k)), .bool true]) ∧ SpcR w' g r (laidR a b c d T) ∧ SlR w' 4 encBk (.slice p (laidR a b c d T).L.length k) (laidR a b c d T).L ∧ Below W.heap.size W w') := Lib.hid fun W h => by
    refine (law_laid a b c d T (by omega) _ W (hvT.below h (Nat.le_refl _))).mono ?_
    rintro e w' ⟨g, r, vL, rfl, h1, h2, h3⟩
    obtain ⟨pL, cL, rfl, -⟩ := id h2
    exact ⟨g, r, pL, cL, rfl, h1, h2, h3⟩
  generalize laidR a b c d T = m at *
  have hml : m.L.length ≤ 1000000 := by omega
  have HLB := Lib.hid fun g r v W h hv => seg_Labels m hwf.1 hml l (by omega) v g r W h hv
  have HRL := Lib.hid fun v vL W hL hv => r26_Labels m hwf.1 hml l (by omega) v vL W hL hv
  have HOF := Lib.hid fun g r v W h hv => seg_Of m hwf.1 hml ls (by omega) v g r W h hv
  have HRO := Lib.hid fun v vL W hL hv => r26_Of m hwf.1 hml ls (by omega) v vL W hL hv
  have HPL := Lib.hid fun (k : List Sg.Seg) v W (hk : k.length ≤ 1000000) h => law_plain k hk v W h
  have HSH := Lib.hid fun v W h => seg_Short l (by omega) v W h
  have HRS := Lib.hid fun v W h => r26_Short l (by omega) v W h
  have HSM : Hid (∀ k va vb W, k.length ≤ 1000000 → SlR W 2 encG va k → SlR W 2 encG vb k → Calls Tryz.prog 10 #[va, vb] W fun e w' => e = .returned (.bool true) ∧ Below W.heap.size W w') := Lib.hid fun k va vb W hk h1 h2 => by
    have := r26_Same k k va vb W (by omega) h1 h2
    rw [decide_eq_true rfl] at this
    exact this
  have HSP : Hid (∀ va vb W, SlR W 1 encI va (Sg.labelsR m l).1 → SlR W 1 encI vb (Sg.labelsR m l).1 → Calls Tryz.prog 19 #[.agg #[.int .i64 0, va, .int .i64 0, .int .i64 0, .slice none 0 0, .bool false], .agg #[.int .i64 0, vb, .int .i64 0, .int .i64 0, .slice none 0 0, .bool false]] W fun e w' => e = .returned (.bool true) ∧ Below W.heap.size W w') := Lib.hid fun va vb W h1 h2 => by
    have hle := labelsR_le m l
    have := ref_SameHop (hopL (Sg.labelsR m l).1) (hopL (Sg.labelsR m l).1) va (.slice none 0 0) vb (.slice none 0 0) W ⟨by simp only [hopL]; omega, by simp [hopL], h1, slr_nilI _⟩ ⟨by simp only [hopL]; omega, by simp [hopL], h2, slr_nilI _⟩
    rw [decide_eq_true rfl] at this
    exact this
  have HOL := Lib.hid (ofR_le m ls)
  have HSHL := Lib.hid (shortR_le l)
  generalize Sg.labelsR m l = lb at *
  obtain ⟨xs, er⟩ := lb
  generalize (Sg.ofR m ls).isSome = ob at *
  generalize (Sg.ofR m ls).getD [] = os at *
  generalize Sg.shortR l = sh at *
  simp only at HLB HRL HSP
  clear ht
  go_enter Tryz.func4, Tryz.ntmps4
  go_wp2_with fail
  refine (HAW.out _ (HT.out _ (belowA w _))).mono ?_
  rintro e w1 ⟨rfl, b1⟩
  obtain ⟨k1, b1'⟩ := box_first b1
  have HB1 := Lib.hid b1'
  have HK1 := Lib.hid k1
  have cx0 := k1.cell 0
  have cx1 := k1.cell 1
  have cx2 := k1.cell 2
  have cx3 := k1.cell 3
  have cx4 := k1.cell 4
  simp only [List.getElem?_toArray, List.getElem?_cons_zero, List.getElem?_cons_succ] at cx0 cx1 cx2 cx3 cx4
  clear b1 b1' k1
  go_wp2_with fail
  refine (HLD.out _ HB1.out).mono ?_
  rintro e w2 ⟨g, r, pL, cL, rfl, hS, hD, b2⟩
  have hba := belowA w2 (.cells (sA m (.slice pL m.L.length cL)) 44)
  have hb3 := (HB1.out.trans (b2.mono HB1.out.size)).trans (hba.mono (HB1.out.trans (b2.mono HB1.out.size)).size)
  have HB3 := Lib.hid hb3
  have HS3 := Lib.hid (hS.below hba)
  have HD3 := Lib.hid (hD.below hba (Nat.le_refl _))
  have HZ3 := Lib.hid (Blk.new w2 44 (sA m (.slice pL m.L.length cL)))
  clear b2 hS hD hba hb3
  go_wp2_with (refine wpList_store_newS rfl _ _ _ rfl (sA m (.slice pL m.L.length cL)) rfl rfl _ _ infoS rfl (oneS _ _ _ _) ?_)
  refine (HLB.out g r _ _ HS3.out (hvb.below HB3.out (Nat.le_refl _))).mono ?_
  rintro e w4 ⟨vx, rfl, hx4, b4⟩
  have HL4 : Hid (LS w g r m w2.heap.size (.slice pL m.L.length cL) (.slice p l.length cap) l (.slice ps ls.length cs) ls vx xs w4) := Lib.hid ⟨HS3.out.below b4, HD3.out.below b4 (Nat.le_refl _), HZ3.out.below b4 HZ3.out.lt, hvb.below (HB3.out.trans (b4.mono HB3.out.size)) (Nat.le_refl _), hvsb.below (HB3.out.trans (b4.mono HB3.out.size)) (Nat.le_refl _), hx4, HB3.out.trans (b4.mono HB3.out.size)⟩
  obtain ⟨px, kx, rfl, -⟩ := hx4
  generalize w2.heap.size = Z at *
  clear b4 HS3 HD3 HZ3
  go_wp2_with fail
  refine wp_region_held_drew (S := fun W => LS w g r m Z (.slice pL m.L.length cL) (.slice p l.length cap) l (.slice ps ls.length cs) ls (.slice px xs.length kx) xs W) (by kernel_rfl) (HL4.out.next (Below.refl _ _).drew) (fun hHeld => ?_)
  refine wpAnyH_take (i := 0) rfl (by kernel_rfl) (by kernel_rfl) (by kernel_rfl) (fun _ _ _ h => h) (yieldsIf_load_row (by rfl) _ _ rfl (Z) rfl _ (sA m (.slice pL m.L.length cL)) _ (fun w h => h.b) Tryz.underlying44 rfl infoS) (by assumption) ?_
  simp only [Act.put, List.setIfInBounds_toArray, List.set_cons_zero, List.set_cons_succ, List.getElem_toArray, List.getElem_cons_zero, List.getElem_cons_succ]
  refine wpAnyH_take (i := 1) (v := ?_) rfl (by kernel_rfl) (by kernel_rfl) (by kernel_rfl) (fun _ _ _ h => h) (Or.inl ⟨by rfl, ?_⟩) (by assumption) ?_
  rotate_left
  · intro w hSw; go_simp; try with_reducible rfl
  simp only [Act.put, List.setIfInBounds_toArray, List.set_cons_zero, List.set_cons_succ, List.getElem_toArray, List.getElem_cons_zero, List.getElem_cons_succ]
  refine held_step (i := 2) rfl (by kernel_rfl) (by rfl) (fun K hK => ?_)
  go_simp
  refine (HPL.out l _ _ (by omega) hHeld.hv).mono ?_; rintro e w5 ⟨vp, rfl, hp5, b5⟩; have HV5 := hHeld.next b5
  go_wp2_with fail
  refine hK.out _ _ (HV5) (fun hHeld => ?_)
  clear hK K
  try simp only [Act.put, List.setIfInBounds_toArray, List.set_cons_zero, List.set_cons_succ, List.getElem_toArray, List.getElem_cons_zero, List.getElem_cons_succ]
  refine held_step (i := 3) rfl (by kernel_rfl) (by rfl) (fun K hK => ?_)
  go_simp
  refine (HRL.out _ _ _ hHeld.D hp5).mono ?_; rintro e w6 ⟨vy, rfl, hy6, b6⟩; have HV6 := hHeld.next b6; have HY6 := Lib.hid hy6; obtain ⟨py, ky, rfl, -⟩ := id hy6
  go_wp2_with fail
  refine hK.out _ _ (HV6) (fun hHeld => ?_)
  clear hK K
  try simp only [Act.put, List.setIfInBounds_toArray, List.set_cons_zero, List.set_cons_succ, List.getElem_toArray, List.getElem_cons_zero, List.getElem_cons_succ]
  refine wpAnyH_take (i := 4) (v := ?_) rfl (by kernel_rfl) (by kernel_rfl) (by kernel_rfl) (fun _ _ _ h => h) (Or.inl ⟨by rfl, ?_⟩) (by assumption) ?_
  rotate_left
  · intro w hSw; go_simp; try with_reducible rfl
  simp only [Act.put, List.setIfInBounds_toArray, List.set_cons_zero, List.set_cons_succ, List.getElem_toArray, List.getElem_cons_zero, List.getElem_cons_succ]
  refine wpAnyH_take (i := 5) (v := ?_) rfl (by kernel_rfl) (by kernel_rfl) (by kernel_rfl) (fun _ _ _ h => h) (Or.inl ⟨by rfl, ?_⟩) (by assumption) ?_
  rotate_left
  · intro w hSw; go_simp; try with_reducible rfl
  simp only [Act.put, List.setIfInBounds_toArray, List.set_cons_zero, List.set_cons_succ, List.getElem_toArray, List.getElem_cons_zero, List.getElem_cons_succ]
  refine wpAnyH_take (i := 6) (v := ?_) rfl (by kernel_rfl) (by kernel_rfl) (by kernel_rfl) (fun _ _ _ h => h) (Or.inl ⟨by rfl, ?_⟩) (by assumption) ?_
  rotate_left
  · intro w hSw; go_simp; try with_reducible rfl
  simp only [Act.put, List.setIfInBounds_toArray, List.set_cons_zero, List.set_cons_succ, List.getElem_toArray, List.getElem_cons_zero, List.getElem_cons_succ]
  refine wpAnyH_take (i := 7) (v := ?_) rfl (by kernel_rfl) (by kernel_rfl) (by kernel_rfl) (fun _ _ _ h => h) (Or.inl ⟨by rfl, ?_⟩) (by assumption) ?_
  rotate_left
  · intro w hSw; go_simp; try with_reducible rfl
  simp only [Act.put, List.setIfInBounds_toArray, List.set_cons_zero, List.set_cons_succ, List.getElem_toArray, List.getElem_cons_zero, List.getElem_cons_succ]
  refine wpAnyH_take (i := 8) (v := ?_) rfl (by kernel_rfl) (by kernel_rfl) (by kernel_rfl) (fun _ _ _ h => h) (Or.inl ⟨by rfl, ?_⟩) (by assumption) ?_
  rotate_left
  · intro w hSw; go_simp; try with_reducible rfl
  simp only [Act.put, List.setIfInBounds_toArray, List.set_cons_zero, List.set_cons_succ, List.getElem_toArray, List.getElem_cons_zero, List.getElem_cons_succ]
  refine wpAnyH_done (by kernel_rfl) ?_ _
  have HL6 := Lib.hid hHeld
  clear hHeld HV5 HV6 hy6 hp5 HL4
  go_wp2_with fail
  refine (HOF.out g r _ _ HL6.out.S HL6.out.hs).mono ?_
  rintro e w7 ⟨vm, rfl, hm7, b7⟩
  have HL7 := Lib.hid (HL6.out.next b7)
  have HY7 := Lib.hid (HY6.out.below b7 (Nat.le_refl _))
  have HM7 := Lib.hid hm7
  clear b7 hm7 HL6 HY6
  go_wp2_with (refine wpList_load_row rfl _ _ rfl Z rfl _ (sA m (.slice pL m.L.length cL)) (0, 0) _ HL7.out.b Tryz.underlying44 rfl infoS ?_)
  refine (HRO.out _ _ _ HL7.out.D HL7.out.hs).mono ?_
  rintro e w8 ⟨vn, rfl, hn8, b8⟩
  have HL8 := Lib.hid (HL7.out.next b8)
  have HY8 := Lib.hid (HY7.out.below b8 (Nat.le_refl _))
  have HM8 := Lib.hid (HM7.out.below b8 (Nat.le_refl _))
  have HN8 := Lib.hid hn8
  clear b8 hn8 HL7 HY7 HM7
  go_wp2_with fail
  refine (HSP.out _ _ _ HL8.out.hx HY8.out).mono ?_
  rintro e w9 ⟨rfl, b9⟩
  have HL9 := Lib.hid (HL8.out.next b9)
  have HM9 := Lib.hid (HM8.out.below b9 (Nat.le_refl _))
  have HN9 := Lib.hid (HN8.out.below b9 (Nat.le_refl _))
  clear b9 HL8 HY8 HM8 HN8
  go_wp2_with fail
  have hos := HOL.out
  refine (HPL.out os _ _ (by omega) HM9.out).mono ?_
  rintro e w10 ⟨vq, rfl, hq, b10⟩
  have HL10 := Lib.hid (HL9.out.next b10)
  have HN10 := Lib.hid (HN9.out.below b10 (Nat.le_refl _))
  have HQ10 := Lib.hid hq
  clear b10 hq HL9 HM9 HN9
  go_wp2_with fail
  refine (HSM.out os _ _ _ (by omega) HQ10.out HN10.out).mono ?_
  rintro e w11 ⟨rfl, b11⟩
  have HL11 := Lib.hid (HL10.out.next b11)
  clear b11 HL10 HQ10 HN10
  go_wp2_with fail
  refine (HSH.out _ _ HL11.out.hv).mono ?_
  rintro e w12 ⟨vh, rfl, hh, b12⟩
  have HL12 := Lib.hid (HL11.out.next b12)
  have HH12 := Lib.hid hh
  clear b12 hh HL11
  go_wp2_with fail
  have hshl := HSHL.out
  refine (HPL.out sh _ _ (by omega) HH12.out).mono ?_
  rintro e w13 ⟨vi, rfl, hi, b13⟩
  have HL13 := Lib.hid (HL12.out.next b13)
  have HI13 := Lib.hid hi
  clear b13 hi HL12 HH12
  go_wp2_with fail
  refine (HPL.out l _ _ (by omega) HL13.out.hv).mono ?_
  rintro e w14 ⟨vj, rfl, hj, b14⟩
  have HL14 := Lib.hid (HL13.out.next b14)
  have HI14 := Lib.hid (HI13.out.below b14 (Nat.le_refl _))
  have HJ14 := Lib.hid hj
  clear b14 hj HL13 HI13
  go_wp2_with fail
  refine (HRS.out _ _ HJ14.out).mono ?_
  rintro e w15 ⟨vk, rfl, hk, b15⟩
  have HL15 := Lib.hid (HL14.out.next b15)
  have HI15 := Lib.hid (HI14.out.below b15 (Nat.le_refl _))
  have HK15 := Lib.hid hk
  clear b15 hk HL14 HI14 HJ14
  go_wp2_with fail
  refine (HSM.out sh _ _ _ (by omega) HI15.out HK15.out).mono ?_
  rintro e w16 ⟨rfl, b16⟩
  have HL16 := Lib.hid (HL15.out.next b16)
  clear b16 HL15 HI15 HK15
  go_wp2_with fail
  go_ret
  exact ⟨by simp, HL16.out.bel⟩
end Go.Proofs.YtilahcnpjbnjiaaGreatDoor
