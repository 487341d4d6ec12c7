import Derived.Test.YtjbolphfelakeaaGreatDoorPfxRef
/- The law of layer 8 on texts. -/
namespace Go.Proofs.YtjbolphfelakeaaGreatDoor
set_option linter.unusedVariables false
set_option linter.unusedSimpArgs false
open Go.RowKit Go.Shelf Go.Proofs Go.OctetPlain Go.ColonPlain Go.PrefixPlain

theorem parseP_len (l : List UInt8) : ((parseP l).getD zP).addr.length = 16 := by
  rw [parseP_eq]
  split
  · exact adA_len _
  · rfl
set_option maxRecDepth 100000 in
set_option maxHeartbeats 4000000 in
theorem law08_parses (l : List UInt8) (w : World) (ht : PT w) :
    Calls Tryz.prog 5 #[.string (str l)] w fun e w' => e = .returned (.bool true) ∧ Below w.heap.size w w' := by
  have huP := Tryz.underlying24
  have hsz : (str l).size = l.length := str_size l
  have HT := Lib.hid ht
  clear ht
  by_cases hl : 100 < l.length
  · have hl' : (100 : Int) < (l.length : Int) := by omega
    go_enter Tryz.func5, Tryz.ntmps5
    go_wp2_with fail
    refine (law08_awake _ HT.out).mono ?_
    rintro e w1 ⟨rfl, hb1⟩
    go_wp2_with fail
    go_ret
    exact ⟨rfl, hb1⟩
  · have hl' : ¬ (100 : Int) < (l.length : Int) := by omega
    have P1 := Lib.hid fun W h => pfx_Parse l (by omega) W h
    have P2 := Lib.hid fun W => r8_Parse l (by omega) W
    have hc := parseP_len l
    generalize (parseP l).getD zP = c at P1 P2 hc
    generalize (parseP l).isSome = is at P1 P2
    have XC := PX.of hc
    have QE := fun W => eq_pf (p := c) (q := c) hc hc W
    rw [decide_eq_true rfl] at QE
    go_enter Tryz.func5, Tryz.ntmps5
    go_wp2_with fail
    refine (law08_awake _ HT.out).mono ?_
    rintro e w1 ⟨rfl, hb1⟩
    have T1 := Lib.hid (HT.out.below hb1)
    have L1 := Lib.hid hb1
    clear hb1
    go_wp2_with fail
    refine (P1.out _ T1.out).mono ?_
    rintro e w2 ⟨rfl, hb2⟩
    have L2 := Lib.hid ((L1.out.trans (hb2.mono L1.out.size)).trans ((belowA w2 (.cells (pfA c) 24)).mono (Nat.le_trans L1.out.size hb2.size)))
    have B2 := Lib.hid (Blk.new w2 24 (pfA c))
    clear hb2
    go_wp2_with (refine wpList_store_new rfl _ _ _ rfl (pfA c) rfl rfl _ _ XC.info XC.size.symm XC.one ?_)
    refine (P2.out _).mono ?_
    rintro e w3 ⟨rfl, hb3⟩
    have L3 := Lib.hid ((L2.out.trans (hb3.mono L2.out.size)).trans ((belowA w3 (.cells (pfA c) 24)).mono (Nat.le_trans L2.out.size hb3.size)))
    have B3 := Lib.hid ((B2.out.below hb3 B2.out.lt).alloc (.cells (pfA c) 24))
    have D3 := Lib.hid (Blk.new w3 24 (pfA c))
    clear hb3
    go_wp2_with (first
      | (refine wpList_store_new rfl _ _ _ rfl (pfA c) rfl rfl _ _ XC.info XC.size.symm XC.one ?_)
      | (refine wpList_load_want rfl _ _ rfl w2.heap.size rfl _ (pfA c) (0, 0) _ B3.out huP rfl XC.info ?_)
      | (refine wpList_load_want rfl _ _ rfl w3.heap.size rfl _ (pfA c) (0, 0) _ D3.out huP rfl XC.info ?_))
    go_ret
    exact ⟨by simp, L3.out⟩
end Go.Proofs.YtjbolphfelakeaaGreatDoor
