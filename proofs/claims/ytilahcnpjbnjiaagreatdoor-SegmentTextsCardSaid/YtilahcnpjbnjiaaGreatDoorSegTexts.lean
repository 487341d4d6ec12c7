/- Layer 26's laws: SegmentTexts. -/
import Derived.Test.YtilahcnpjbnjiaaGreatDoorSegAwake
import Derived.Test.YtilahcnpjbnjiaaGreatDoorMSegD
namespace Go.Proofs.YtilahcnpjbnjiaaGreatDoor
set_option linter.unusedVariables false
set_option linter.unusedSimpArgs false
open Go.RowKit Go.Shelf Go.Proofs Go.OctetPlain

theorem spl_len (d : UInt8) : ∀ l, (Sg.spl d l).length ≤ l.length + 1
  | [] => by simp [Sg.spl]
  | c :: r => by
    have ih := spl_len d r
    unfold Sg.spl
    split
    · simp; omega
    · cases h : Sg.spl d r with
      | nil => simp
      | cons w ws => rw [h] at ih; simp at ih ⊢; omega
theorem allOf_len : ∀ {ws : List Sg.Wd} {l : List Sg.Seg}, Sg.allOf ws = some l → l.length = ws.length := fun {ws l} h => by
  have := Sg.allOf_show h
  rw [← this, List.length_map]
theorem parse_len {s : List UInt8} {l : List Sg.Seg} (h : Sg.parseR s = some l) : l.length ≤ s.length + 1 := by
  unfold Sg.parseR at h
  by_cases hs : s = []
  · rw [if_pos hs] at h; cases h; simp
  · rw [if_neg hs] at h
    rw [allOf_len h]
    exact spl_len _ _
theorem allOf_in : ∀ {ws : List Sg.Wd} {l : List Sg.Seg}, Sg.allOf ws = some l → ∀ x ∈ l, 0 ≤ x.n ∧ x.n ≤ 1048575
  | [], l, h, x, hx => by cases h; cases hx
  | w :: ws, l, h, x, hx => by
    unfold Sg.allOf at h
    cases h1 : Sg.one w with
    | none => rw [h1] at h; cases h
    | some y =>
      cases h2 : Sg.allOf ws with
      | none => rw [h1, h2] at h; cases h
      | some r =>
        rw [h1, h2] at h
        cases h
        rcases List.mem_cons.1 hx with rfl | hx
        · exact (Sg.one_show h1).2
        · exact allOf_in h2 x hx
theorem parse_in {s : List UInt8} {l : List Sg.Seg} (h : Sg.parseR s = some l) : ∀ x ∈ l, 0 ≤ x.n ∧ x.n ≤ 1048575 := by
  unfold Sg.parseR at h
  by_cases hs : s = []
  · rw [if_pos hs] at h; cases h; intro x hx; cases hx
  · rw [if_neg hs] at h; exact allOf_in h
theorem showA_R {l : List Sg.Seg} (h : ∀ x ∈ l, 0 ≤ x.n ∧ x.n ≤ 1048575) : showA l = Sg.showR l := by
  unfold showA Sg.showR
  congr 1
  refine List.map_congr_left fun x hx => ?_
  have h0 : ¬ x.n < 0 := by have := (h x hx).1; omega
  simp only [showI, Sg.showOne, Lib.itoa, h0, if_false]
theorem parse_showA {s : List UInt8} {l : List Sg.Seg} (h : Sg.parseR s = some l) : showA l = s := by rw [showA_R (parse_in h), Sg.parse_show h]
theorem parse_i64 {s : List UInt8} {l : List Sg.Seg} (h : Sg.parseR s = some l) : I64s l := fun x hx => by have := parse_in h x hx; omega
set_option maxRecDepth 100000 in
set_option maxHeartbeats 8000000 in
theorem law_texts (s : List UInt8) (hs : s.length ≤ 200) (l : List Sg.Seg) (hl : l.length ≤ 30) (hi : I64s l) (v : Value) (w : World) (ht : Tabs w) (hv : SlR w 2 encG v l) :
    Calls Tryz.prog 3 #[.string (str s), v] w fun e w' => e = .returned (.bool true) ∧ Below w.heap.size w w' := by
  have HT := Lib.hid fun W (h : Below w.heap.size w W) => ht.next h (Nat.le_refl _)
  have HAW := Lib.hid (law_awake w ht)
  have hsz : (str s).size = s.length := str_size s
  have htl := str_tl
  have hl6 : l.length ≤ 1000000 := by omega
  have HSV := Lib.hid fun v W h1 h2 => seg_Show l hl6 hi v W h1 h2
  have HRS := Lib.hid fun v W h => r26_Show l hl6 hi v W h
  have HPL := Lib.hid fun (k : List Sg.Seg) v W (hk : k.length ≤ 1000000) h => law_plain k hk v W h
  have HPS := Lib.hid fun W h => seg_Parse s (by omega) W h
  have HRP := Lib.hid fun W h => r26_Parse s (by omega) W h
  have htt := showA_le l hi
  have HPT := Lib.hid fun W h => seg_Parse (showA l) (by omega) W h
  have HRT := Lib.hid fun W h => r26_Parse (showA l) (by omega) W h
  have HSM : Hid (∀ k va vb W, k.length ≤ 1000000 → SlR W 2 encG va k → SlR W 2 encG vb k → Calls Tryz.prog 10 #[va, vb] W fun e w' => e = .returned (.bool true) ∧ Below W.heap.size W w') := Lib.hid fun k va vb W hk h1 h2 => by
    have := r26_Same k k va vb W (by omega) h1 h2
    rw [decide_eq_true rfl] at this
    exact this
  have HLT : Hid (((Sg.parseR (showA l)).getD []).length ≤ 1000000) := Lib.hid (by
    cases h : Sg.parseR (showA l) with
    | none => simp
    | some k => have := parse_len h; simp; omega)
  generalize showA l = t at *
  have hvb := hv
  obtain ⟨p, cap, rfl, -⟩ := hv
  cases hps : Sg.parseR s with
  | none =>
    rw [hps] at HPS HRP
    simp only [Option.isSome, Option.getD] at HPS HRP
    clear hps ht
    go_enter Tryz.func3, Tryz.ntmps3
    go_wp2_with fail
    refine HAW.out.mono ?_
    rintro e w1 ⟨rfl, b1⟩
    have HB1 := Lib.hid b1
    clear b1
    go_wp2_with fail
    refine (HPS.out _ (HT.out _ HB1.out)).mono ?_
    rintro e w2 ⟨va, rfl, ha, b2⟩
    have HB2 := Lib.hid (HB1.out.trans (b2.mono HB1.out.size))
    have HA2 := Lib.hid ha
    clear b2 ha
    go_wp2_with fail
    refine (HRP.out _ (HT.out _ HB2.out)).mono ?_
    rintro e w3 ⟨vb, rfl, hb, b3⟩
    have HB3 := Lib.hid (HB2.out.trans (b3.mono HB2.out.size))
    have HA3 := Lib.hid (HA2.out.below b3 (Nat.le_refl _))
    have HR3 := Lib.hid hb
    clear b3 hb
    go_wp2_with fail
    refine (HPL.out _ _ _ (by simp) HA3.out).mono ?_
    rintro e w4 ⟨vp, rfl, hp, b4⟩
    have HB4 := Lib.hid (HB3.out.trans (b4.mono HB3.out.size))
    have HR4 := Lib.hid (HR3.out.below b4 (Nat.le_refl _))
    have HP4 := Lib.hid hp
    clear b4 hp
    go_wp2_with fail
    refine (HSM.out _ _ _ _ (by simp) HP4.out HR4.out).mono ?_
    rintro e w5 ⟨rfl, b5⟩
    have HBA := Lib.hid (HB4.out.trans (b5.mono HB4.out.size))
    clear b5 HPS HRP HA2 HA3 HR3 HR4 HP4
    go_wp2_with fail
    -- the last part of the first question: Show(l), and the document's
    refine (HSV.out _ _ (HT.out _ HBA.out) (hvb.below HBA.out (Nat.le_refl _))).mono ?_
    rintro e x1 ⟨rfl, d1⟩
    have HD1 := Lib.hid (HBA.out.trans (d1.mono HBA.out.size))
    clear d1
    go_wp2_with fail
    refine (HPL.out _ _ _ hl6 (hvb.below HD1.out (Nat.le_refl _))).mono ?_
    rintro e x2 ⟨vp2, rfl, hp2, d2⟩
    have HBB := Lib.hid (HD1.out.trans (d2.mono HD1.out.size))
    have HP2 := Lib.hid hp2
    clear d2 hp2
    go_wp2_with fail
    refine (HRS.out _ _ HP2.out).mono ?_
    rintro e x3 ⟨rfl, rfl⟩
    -- B: what was reached; a world w2; then the second half
    go_wp2_with fail
    refine (HSV.out _ _ (HT.out _ HBB.out) (hvb.below HBB.out (Nat.le_refl _))).mono ?_
    rintro e v1 ⟨rfl, c1⟩
    have HC1 := Lib.hid (HBB.out.trans (c1.mono HBB.out.size))
    clear c1
    go_wp2_with fail
    refine (HPT.out _ (HT.out _ HC1.out)).mono ?_
    rintro e v2 ⟨vc, rfl, hc2, c2⟩
    have HC2 := Lib.hid (HC1.out.trans (c2.mono HC1.out.size))
    have HV2 := Lib.hid hc2
    clear c2 hc2
    go_wp2_with fail
    refine (HPL.out _ _ _ hl6 (hvb.below HC2.out (Nat.le_refl _))).mono ?_
    rintro e v3 ⟨vp, rfl, hp3, c3⟩
    have HC3 := Lib.hid (HC2.out.trans (c3.mono HC2.out.size))
    have HV3 := Lib.hid (HV2.out.below c3 (Nat.le_refl _))
    have HP3 := Lib.hid hp3
    clear c3 hp3
    go_wp2_with fail
    refine (HRS.out _ _ HP3.out).mono ?_
    rintro e v4 ⟨rfl, rfl⟩
    go_wp2_with fail
    refine (HRT.out _ (HT.out _ HC3.out)).mono ?_
    rintro e v5 ⟨vd, rfl, hd5, c5⟩
    have HC5 := Lib.hid (HC3.out.trans (c5.mono HC3.out.size))
    have HV5 := Lib.hid (HV3.out.below c5 (Nat.le_refl _))
    have HD5 := Lib.hid hd5
    clear c5 hd5
    go_wp2_with fail
    refine (HPL.out _ _ _ HLT.out HV5.out).mono ?_
    rintro e v6 ⟨vq, rfl, hq6, c6⟩
    have HC6 := Lib.hid (HC5.out.trans (c6.mono HC5.out.size))
    have HD6 := Lib.hid (HD5.out.below c6 (Nat.le_refl _))
    have HQ6 := Lib.hid hq6
    clear c6 hq6
    go_wp2_with fail
    refine (HSM.out _ _ _ _ HLT.out HQ6.out HD6.out).mono ?_
    rintro e v7 ⟨rfl, c7⟩
    have HC7 := Lib.hid (HC6.out.trans (c7.mono HC6.out.size))
    clear c7
    go_wp2_with fail
    go_ret
    exact ⟨by simp, HC7.out⟩
  | some k =>
    have hk1 := parse_len hps
    have HSK := Lib.hid fun v W h1 h2 => seg_Show k (by omega) (parse_i64 hps) v W h1 h2
    rw [parse_showA hps] at HSK
    rw [hps] at HPS HRP
    simp only [Option.isSome, Option.getD] at HPS HRP
    clear hps ht
    go_enter Tryz.func3, Tryz.ntmps3
    go_wp2_with fail
    refine HAW.out.mono ?_
    rintro e w1 ⟨rfl, b1⟩
    have HB1 := Lib.hid b1
    clear b1
    go_wp2_with fail
    refine (HPS.out _ (HT.out _ HB1.out)).mono ?_
    rintro e w2 ⟨va, rfl, ha, b2⟩
    have HB2 := Lib.hid (HB1.out.trans (b2.mono HB1.out.size))
    have HA2 := Lib.hid ha
    clear b2 ha
    go_wp2_with fail
    refine (HRP.out _ (HT.out _ HB2.out)).mono ?_
    rintro e w3 ⟨vb, rfl, hb, b3⟩
    have HB3 := Lib.hid (HB2.out.trans (b3.mono HB2.out.size))
    have HA3 := Lib.hid (HA2.out.below b3 (Nat.le_refl _))
    have HR3 := Lib.hid hb
    clear b3 hb
    go_wp2_with fail
    refine (HPL.out _ _ _ (by omega) HA3.out).mono ?_
    rintro e w4 ⟨vp, rfl, hp, b4⟩
    have HB4 := Lib.hid (HB3.out.trans (b4.mono HB3.out.size))
    have HA4 := Lib.hid (HA3.out.below b4 (Nat.le_refl _))
    have HR4 := Lib.hid (HR3.out.below b4 (Nat.le_refl _))
    have HP4 := Lib.hid hp
    clear b4 hp
    go_wp2_with fail
    refine (HSM.out _ _ _ _ (by omega) HP4.out HR4.out).mono ?_
    rintro e w5 ⟨rfl, b5⟩
    have HB5 := Lib.hid (HB4.out.trans (b5.mono HB4.out.size))
    have HA5 := Lib.hid (HA4.out.below b5 (Nat.le_refl _))
    clear b5 HPS HRP HA2 HA3 HR3 HR4 HP4
    go_wp2_with fail
    refine (HSK.out _ _ (HT.out _ HB5.out) HA5.out).mono ?_
    rintro e w6 ⟨rfl, b6⟩
    have HBA := Lib.hid (HB5.out.trans (b6.mono HB5.out.size))
    clear b6
    go_wp2_with fail
    -- the last part of the first question: Show(l), and the document's
    refine (HSV.out _ _ (HT.out _ HBA.out) (hvb.below HBA.out (Nat.le_refl _))).mono ?_
    rintro e x1 ⟨rfl, d1⟩
    have HD1 := Lib.hid (HBA.out.trans (d1.mono HBA.out.size))
    clear d1
    go_wp2_with fail
    refine (HPL.out _ _ _ hl6 (hvb.below HD1.out (Nat.le_refl _))).mono ?_
    rintro e x2 ⟨vp2, rfl, hp2, d2⟩
    have HBB := Lib.hid (HD1.out.trans (d2.mono HD1.out.size))
    have HP2 := Lib.hid hp2
    clear d2 hp2
    go_wp2_with fail
    refine (HRS.out _ _ HP2.out).mono ?_
    rintro e x3 ⟨rfl, rfl⟩
    -- B: what was reached; a world w2; then the second half
    go_wp2_with fail
    refine (HSV.out _ _ (HT.out _ HBB.out) (hvb.below HBB.out (Nat.le_refl _))).mono ?_
    rintro e v1 ⟨rfl, c1⟩
    have HC1 := Lib.hid (HBB.out.trans (c1.mono HBB.out.size))
    clear c1
    go_wp2_with fail
    refine (HPT.out _ (HT.out _ HC1.out)).mono ?_
    rintro e v2 ⟨vc, rfl, hc2, c2⟩
    have HC2 := Lib.hid (HC1.out.trans (c2.mono HC1.out.size))
    have HV2 := Lib.hid hc2
    clear c2 hc2
    go_wp2_with fail
    refine (HPL.out _ _ _ hl6 (hvb.below HC2.out (Nat.le_refl _))).mono ?_
    rintro e v3 ⟨vp, rfl, hp3, c3⟩
    have HC3 := Lib.hid (HC2.out.trans (c3.mono HC2.out.size))
    have HV3 := Lib.hid (HV2.out.below c3 (Nat.le_refl _))
    have HP3 := Lib.hid hp3
    clear c3 hp3
    go_wp2_with fail
    refine (HRS.out _ _ HP3.out).mono ?_
    rintro e v4 ⟨rfl, rfl⟩
    go_wp2_with fail
    refine (HRT.out _ (HT.out _ HC3.out)).mono ?_
    rintro e v5 ⟨vd, rfl, hd5, c5⟩
    have HC5 := Lib.hid (HC3.out.trans (c5.mono HC3.out.size))
    have HV5 := Lib.hid (HV3.out.below c5 (Nat.le_refl _))
    have HD5 := Lib.hid hd5
    clear c5 hd5
    go_wp2_with fail
    refine (HPL.out _ _ _ HLT.out HV5.out).mono ?_
    rintro e v6 ⟨vq, rfl, hq6, c6⟩
    have HC6 := Lib.hid (HC5.out.trans (c6.mono HC5.out.size))
    have HD6 := Lib.hid (HD5.out.below c6 (Nat.le_refl _))
    have HQ6 := Lib.hid hq6
    clear c6 hq6
    go_wp2_with fail
    refine (HSM.out _ _ _ _ HLT.out HQ6.out HD6.out).mono ?_
    rintro e v7 ⟨rfl, c7⟩
    have HC7 := Lib.hid (HC6.out.trans (c7.mono HC6.out.size))
    clear c7
    go_wp2_with fail
    go_ret
    exact ⟨by simp, HC7.out⟩
end Go.Proofs.YtilahcnpjbnjiaaGreatDoor
