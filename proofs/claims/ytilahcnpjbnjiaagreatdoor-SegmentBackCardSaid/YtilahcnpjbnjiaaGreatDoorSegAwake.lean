/- Layer 26's laws: the document's example. -/
import Derived.Test.YtilahcnpjbnjiaaGreatDoorSegOf
import Derived.Test.YtilahcnpjbnjiaaGreatDoorSegLaid
import Derived.Test.YtilahcnpjbnjiaaGreatDoorSegCompact
import Derived.Test.YtilahcnpjbnjiaaGreatDoorMSegD
namespace Go.Proofs.YtilahcnpjbnjiaaGreatDoor
set_option linter.unusedVariables false
set_option linter.unusedSimpArgs false
open Go.RowKit Go.Shelf Go.Proofs Go.OctetPlain

theorem laid_fold (m : Sp.Spc) (hm : Sp.WF m) : ∀ (T : List Sp.S) , Sp.WF (T.foldl (fun m s => (Sp.takeR m 1 s).1) m) ∧ (T.foldl (fun m s => (Sp.takeR m 1 s).1) m).L.length ≤ m.L.length + T.length := by
  intro T
  induction T generalizing m with
  | nil => exact ⟨hm, by simp⟩
  | cons t T ih =>
    have h := Sp.take_wf hm 1 t
    obtain ⟨h1, h2⟩ := ih _ h.1
    exact ⟨h1, by rw [List.foldl_cons, List.length_cons]; omega⟩
theorem laid_wf (a b c d : Int) (T : List Sp.S) : Sp.WF (laidR a b c d T) ∧ (laidR a b c d T).L.length ≤ T.length := by
  have h1 := Sp.carve_wf Sp.wf0 1 (a, b)
  have h2 := Sp.carve_wf h1.1 2 (c, d)
  have h3 := laid_fold _ h2.1 T
  have h0 : Sp.spc0.L.length = 0 := rfl
  exact ⟨h3.1, by unfold laidR laid2; omega⟩
def mA : Sp.Spc := laidR 16000 16999 15000 15999 [(15001, 15001)]
def lA : List Sg.Seg := [⟨false, 5⟩, ⟨true, 15001⟩, ⟨false, 7⟩]
def nA : List Int := [16007, 15001, 16005]
def sA0 : List UInt8 := [53, 62, 42, 49, 53, 48, 48, 49, 62, 55]
theorem parse_A : Sg.parseR sA0 = some lA := by decide +kernel
theorem labels_A : Sg.labelsR mA lA = (nA, 0) := by decide +kernel
theorem of_A : Sg.ofR mA nA = some lA := (Sg.of_labels (laid_wf _ _ _ _ _).1 labels_A).1
theorem show_A : showA lA = sA0 := by decide +kernel
theorem i64_A : I64s lA := by
  intro x hx
  simp [lA] at hx
  rcases hx with rfl | rfl | rfl <;> simp
/-- where the example's numbers lie -/
theorem nA_at {w : World} {p : Option Addr} (h : RdP w 1 encI p nA) : ∃ b off, p = some ⟨b, off, none⟩ ∧ ∀ W, Below w.heap.size w W → W.cell? ⟨b, off, none⟩ = some (.int .i64 16007) ∧ W.cell? ⟨b, off + 1, none⟩ = some (.int .i64 15001) ∧ W.cell? ⟨b, off + 2, none⟩ = some (.int .i64 16005) := by
  obtain ⟨b, off, rfl, hb, h0⟩ := h.at (i := 0) (by decide)
  have h1 := h.in (i := 1) (by decide) 0 (.int .i64 15001) rfl
  have h2 := h.in (i := 2) (by decide) 0 (.int .i64 16005) rfl
  have h0 := h0 0 (.int .i64 16007) rfl
  simp only [Nat.zero_mul, Nat.add_zero, Nat.one_mul, Nat.mul_one] at h0 h1 h2
  exact ⟨b, off, rfl, fun W hW => ⟨(hW.cell (p := ⟨b, off, none⟩) hb).trans h0, (hW.cell (p := ⟨b, off + 1, none⟩) hb).trans h1, (hW.cell (p := ⟨b, off + 2, none⟩) hb).trans h2⟩⟩
theorem slr_two (W : World) : SlR (W.alloc (.cells #[.bool false, .int .i64 5, .bool false, .int .i64 5] 65)) 2 encG (.slice (some ⟨W.heap.size, 0, none⟩) 2 2) [⟨false, 5⟩, ⟨false, 5⟩] :=
  slr_lit encG_len W 65 [⟨false, 5⟩, ⟨false, 5⟩] (by simp) _ rfl
theorem slr_taken (W : World) : SlR (W.alloc (.cells #[.int .i64 15001, .int .i64 15001] 35)) 2 encSp (.slice (some ⟨W.heap.size, 0, none⟩) 1 1) [(15001, 15001)] :=
  slr_lit encSp_len W 35 [(15001, 15001)] (by simp) _ rfl
set_option maxRecDepth 100000 in
set_option maxHeartbeats 8000000 in
theorem law_awake (w : World) (ht : Tabs w) :
    Calls Tryz.prog 7 #[] w fun e w' => e = .returned (.bool true) ∧ Below w.heap.size w w' := by
  have HT := Lib.hid fun W (h : Below w.heap.size w W) => ht.next h (Nat.le_refl _)
  have hwf := laid_wf 16000 16999 15000 15999 [(15001, 15001)]
  have HLD : Hid (∀ v W, SlR W 2 encSp v [(15001, 15001)] → Calls Tryz.prog 14 #[.agg #[.int .i64 16000, .int .i64 16999, .int .i64 15000, .int .i64 15999, v]] W fun e w' => ∃ g r p c, e = .returned (.tuple #[.pointer (some ⟨g, 0, none⟩), .agg (sA mA (.slice p mA.L.length c)), .bool true]) ∧ SpcR w' g r mA ∧ Below W.heap.size W w') := Lib.hid fun v W h => by
    refine (law_laid 16000 16999 15000 15999 [(15001, 15001)] (by decide) v W h).mono ?_
    rintro e w' ⟨g, r, vL, rfl, h1, h2, h3⟩
    obtain ⟨pL, cL, rfl, -⟩ := h2
    exact ⟨g, r, pL, cL, rfl, h1, h3⟩
  have HPA : Hid (∀ W, Tabs W → Calls Tryz.prog 8 #[.string { data := #[53, 62, 42, 49, 53, 48, 48, 49, 62, 55] }] W fun e w' => ∃ v, e = .returned (.tuple #[v, .bool true]) ∧ SlR w' 2 encG v lA ∧ Below W.heap.size W w') := Lib.hid fun W h => by
    have := seg_Parse sA0 (by decide) W h
    rw [parse_A] at this
    exact this
  have HLB : Hid (∀ g r v W, SpcR W g r mA → SlR W 2 encG v lA → Calls Tryz.prog 15 #[.pointer (some ⟨g, 0, none⟩), v] W fun e w' => ∃ p c, e = .returned (.tuple #[.slice p 3 c, .int .i64 0]) ∧ SlR w' 1 encI (.slice p 3 c) nA ∧ Below W.heap.size W w') := Lib.hid fun g r v W h hv => by
    have := seg_Labels mA hwf.1 (Nat.le_trans hwf.2 (by decide)) lA (by decide) v g r W h hv
    rw [labels_A] at this
    refine this.mono ?_
    rintro e w' ⟨v', rfl, h1, h2⟩
    obtain ⟨p, c, rfl, h3⟩ := id h1
    exact ⟨p, c, rfl, h1, h2⟩
  have HOF : Hid (∀ g r v W, SpcR W g r mA → SlR W 1 encI v nA → Calls Tryz.prog 17 #[.pointer (some ⟨g, 0, none⟩), v] W fun e w' => ∃ v', e = .returned (.tuple #[v', .bool true]) ∧ SlR w' 2 encG v' lA ∧ Below W.heap.size W w') := Lib.hid fun g r v W h hv => by
    have := seg_Of mA hwf.1 (Nat.le_trans hwf.2 (by decide)) nA (by decide) v g r W h hv
    rw [of_A] at this
    exact this
  have HSH : Hid (∀ v W, Tabs W → SlR W 2 encG v lA → Calls Tryz.prog 12 #[v] W fun e w' => e = .returned (.string { data := #[53, 62, 42, 49, 53, 48, 48, 49, 62, 55] }) ∧ Below W.heap.size W w') := Lib.hid fun v W h hv => by
    have := seg_Show lA (by decide) i64_A v W h hv
    rw [show_A] at this
    exact this
  have HPL := Lib.hid fun v W (hv : SlR W 2 encG v lA) => law_plain lA (by decide) v W hv
  have HSM : Hid (∀ va vb W, SlR W 2 encG va lA → SlR W 2 encG vb lA → Calls Tryz.prog 10 #[va, vb] W fun e w' => e = .returned (.bool true) ∧ Below W.heap.size W w') := Lib.hid fun va vb W h1 h2 => by
    have := r26_Same lA lA va vb W (by decide) h1 h2
    rw [decide_eq_true rfl] at this
    exact this
  have HST : Hid (∀ v W, SlR W 2 encG v [⟨false, 5⟩, ⟨false, 5⟩] → Calls Tryz.prog 20 #[v] W fun e w' => ∃ p c, e = .returned (.slice p 1 c) ∧ Below W.heap.size W w') := Lib.hid fun v W h => by
    refine (seg_Short [⟨false, 5⟩, ⟨false, 5⟩] (by decide) v W h).mono ?_
    rintro e w' ⟨v', rfl, h1, h2⟩
    obtain ⟨p, c, rfl, h3⟩ := h1
    exact ⟨p, c, rfl, h2⟩
  clear ht hwf
  go_enter Tryz.func7, Tryz.ntmps7
  go_wp2_with fail
  refine (HLD.out _ _ ((slr_taken w).below (belowA _ _) (Nat.le_refl _))).mono ?_
  rintro e w2 ⟨g, r, pL, cL, rfl, hS, b2⟩
  have HB2 := Lib.hid (((belowA w (.cells #[.int .i64 15001, .int .i64 15001] 35)).alloc (by simp) (.cells #[.int .i64 16000, .int .i64 16999, .int .i64 15000, .int .i64 15999, .slice (some ⟨w.heap.size, 0, none⟩) 1 1] 38)).trans (b2.mono (by simp <;> omega)))
  have HB3 := Lib.hid (HB2.out.alloc HB2.out.size (.cells (sA mA (.slice pL mA.L.length cL)) 44))
  have HS3 := Lib.hid (hS.below (belowA w2 (.cells (sA mA (.slice pL mA.L.length cL)) 44)))
  clear b2 hS
  go_wp2_with (refine wpList_store_newS rfl _ _ _ rfl (sA mA (.slice pL mA.L.length cL)) rfl rfl _ _ infoS rfl (oneS _ _ _ _) ?_)
  refine (HPA.out _ (HT.out _ HB3.out)).mono ?_
  rintro e w3 ⟨vl, rfl, hl3, b3⟩
  have HB4 := Lib.hid (HB3.out.trans (b3.mono HB3.out.size))
  have HS4 := Lib.hid (HS3.out.below b3)
  have HL4 := Lib.hid hl3
  clear b3 hl3 HB3 HS3
  go_wp2_with fail
  refine (HLB.out g r _ _ HS4.out HL4.out).mono ?_
  rintro e w4 ⟨pn, cn, rfl, hn4, b4⟩
  have HB5 := Lib.hid (HB4.out.trans (b4.mono HB4.out.size))
  have HS5 := Lib.hid (HS4.out.below b4)
  have HL5 := Lib.hid (HL4.out.below b4 (Nat.le_refl _))
  have HN5 := Lib.hid hn4
  clear b4 hn4 HB4 HS4 HL4
  go_wp2_with fail
  refine (HOF.out g r _ _ HS5.out HN5.out).mono ?_
  rintro e w5 ⟨vm, rfl, hm5, b5⟩
  have HB6 := Lib.hid (HB5.out.trans (b5.mono HB5.out.size))
  have HL6 := Lib.hid (HL5.out.below b5 (Nat.le_refl _))
  have HM6 := Lib.hid hm5
  obtain ⟨q, c, hq, -, -, hRn⟩ := HN5.out.below b5 (Nat.le_refl _)
  obtain ⟨rfl, -, rfl⟩ : pn = q ∧ _ ∧ cn = c := by injection hq with h1 h2 h3; exact ⟨h1, h2, h3⟩
  obtain ⟨b, off, rfl, hcs⟩ := nA_at hRn
  have HCS := Lib.hid hcs
  clear b5 hm5 hRn hq hcs HB5 HS5 HL5 HN5
  go_wp2_with fail
  refine (HSH.out _ _ (HT.out _ HB6.out) HL6.out).mono ?_
  rintro e w6 ⟨rfl, b6⟩
  have HB7 := Lib.hid (HB6.out.trans (b6.mono HB6.out.size))
  have HL7 := Lib.hid (HL6.out.below b6 (Nat.le_refl _))
  have HM7 := Lib.hid (HM6.out.below b6 (Nat.le_refl _))
  obtain ⟨c0, c1, c2⟩ := HCS.out _ b6
  clear b6 HB6 HL6 HM6
  go_wp2_with fail
  clear c0 c1 c2
  refine (HPL.out _ _ HM7.out).mono ?_
  rintro e w7 ⟨vp, rfl, hp7, b7⟩
  have HB8 := Lib.hid (HB7.out.trans (b7.mono HB7.out.size))
  have HL8 := Lib.hid (HL7.out.below b7 (Nat.le_refl _))
  have HP8 := Lib.hid hp7
  clear b7 hp7 HB7 HL7 HM7
  go_wp2_with fail
  refine (HPL.out _ _ HL8.out).mono ?_
  rintro e w8 ⟨vq, rfl, hp8, b8⟩
  have HB9 := Lib.hid (HB8.out.trans (b8.mono HB8.out.size))
  have HP9 := Lib.hid (HP8.out.below b8 (Nat.le_refl _))
  have HQ9 := Lib.hid hp8
  clear b8 hp8 HB8 HL8 HP8
  go_wp2_with fail
  refine (HSM.out _ _ _ HP9.out HQ9.out).mono ?_
  rintro e w9 ⟨rfl, b9⟩
  have HB10 := Lib.hid (HB9.out.trans (b9.mono HB9.out.size))
  clear b9 HB9 HP9 HQ9
  go_wp2_with fail
  refine (HST.out _ _ (slr_two w9)).mono ?_
  rintro e w10 ⟨pp, cc, rfl, b10⟩
  have HB11 := Lib.hid ((HB10.out.alloc HB10.out.size (.cells #[.bool false, .int .i64 5, .bool false, .int .i64 5] 65)).trans (b10.mono (HB10.out.alloc HB10.out.size _).size))
  clear b10
  go_wp2_with fail
  go_ret
  exact ⟨rfl, HB11.out⟩
end Go.Proofs.YtilahcnpjbnjiaaGreatDoor
