/- The laws of layer 7: Parses. -/
import Derived.Test.YtlefkmgcahpobaaDoorColonBack
import Derived.Test.YtlefkmgcahpobaaDoorColonParseR
namespace Go.Proofs.YtlefkmgcahpobaaDoor
set_option linter.unusedVariables false
set_option linter.unusedSimpArgs false
open Go.RowKit Go.Shelf Go.Proofs Go.OctetPlain Go.ColonPlain

set_option maxRecDepth 100000 in
set_option maxHeartbeats 2000000 in
theorem law_parses (s : List UInt8) (w : World) (ht : CT w) :
    Calls Tryd.prog 10 #[.string (str s)] w fun e w' => e = .returned (.bool true) ∧ Below w.heap.size w w' := by
  have hsz : (str s).size = s.length := str_size s
  obtain ⟨c, was, hc16, hcD, hcS⟩ : ∃ (c : List UInt8) (was : Bool), c.length = 16 ∧ (parse s).getD z16 = c ∧ (parse s).isSome = was := by
    cases hps : parse s with
    | none => exact ⟨z16, false, rfl, rfl, rfl⟩
    | some c => exact ⟨c, true, parse_length hps, rfl, rfl⟩
  have HW := Lib.hid ht
  clear ht
  go_enter Tryd.func10, Tryd.ntmps10
  go_wp2_with fail
  refine (law07_awake _ HW.out).mono ?_
  rintro e w1 ⟨rfl, hb1⟩
  by_cases hl : 100 < (s.length : Int)
  · go_wp2_with fail
    go_ret
    exact ⟨rfl, hb1⟩
  · have HB1 := Lib.hid hb1
    have HC1 := Lib.hid (HW.out.below hb1)
    clear hb1
    have PS := Lib.hid fun W h => colon_Parse s (by omega) W h
    have RS := Lib.hid fun W => ref_Parse7 s (by omega) W
    rw [hcD, hcS] at PS RS
    have kC := A16.of hc16
    have QC := eq_self hc16 rfl
    clear hcD hcS
    generalize arrB c = XC at PS RS kC QC
    have KC := Lib.hid kC
    clear kC
    go_wp2_with fail
    refine (PS.out _ HC1.out).mono ?_
    rintro e w2 ⟨rfl, hb2⟩
    have hb02 := HB1.out.trans (hb2.mono HB1.out.size)
    have HB2 := Lib.hid (hb02.trans ((belowA w2 (.cells XC 50)).mono hb02.size))
    have HA2 := Lib.hid (Blk.new w2 50 XC)
    clear hb2 hb02
    go_wp2_with (refine wpList_store_new rfl _ _ _ rfl XC rfl rfl _ _ KC.out.info KC.out.size.symm KC.out.one ?_)
    refine (RS.out _).mono ?_
    rintro e w3 ⟨rfl, hb3⟩
    have HB3 := Lib.hid (HB2.out.trans (hb3.mono HB2.out.size))
    have HB4 := Lib.hid (HB3.out.trans ((belowA w3 (.cells XC 50)).mono HB3.out.size))
    have HA3 := Lib.hid ((HA2.out.below hb3 HA2.out.lt).alloc (.cells XC 50))
    have HD3 := Lib.hid (Blk.new w3 50 XC)
    clear hb3
    go_wp2_with (first
      | (refine wpList_store_new rfl _ _ _ rfl XC rfl rfl _ _ KC.out.info KC.out.size.symm KC.out.one ?_)
      | (refine wpList_load_want rfl _ _ rfl w3.heap.size rfl _ XC (0, 0) _ HD3.out Tryd.underlying50 rfl KC.out.info ?_)
      | (refine wpList_load_want rfl _ _ rfl w2.heap.size rfl _ XC (0, 0) _ HA3.out Tryd.underlying50 rfl KC.out.info ?_))
    go_ret
    exact ⟨rfl, HB4.out⟩
end Go.Proofs.YtlefkmgcahpobaaDoor
