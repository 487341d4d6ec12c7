/- octetBack returns true for every input; the card. -/
import Derived.Test.YtlefkmgcahpobaaDoorOctetRow
namespace Go.Proofs.YtlefkmgcahpobaaDoor
open Go.ChangeShapes Go.WideShapes Go.ChangeAt Go.RowKit Go.Deep Go.Joins
open Go.ChangeMaps (open_string)
set_option linter.unusedVariables false
section
variable {H : Type} {enc : TypeId × Value → H}

set_option maxRecDepth 100000 in
theorem octetBack_contract (W : World) (base : Nat) (args : Array Value) (ds gs : List (DataW H)) (before : List MemPlace)
    (hval : ∀ (j : Nat) t v, Tryd.f7.params[j]? = some t → args[j]? = some v → Value.okWide Tryd.prog W .any base t v)
    (hW : DataW.Whole enc Tryd.prog Tryd.f7.params.toList Rows.octetBackSpec.vars false W args.toList ds gs before) (hL : laidMet Tryd.prog Rows.octetBackRow.laid W) :
    Calls Tryd.prog 7 args W fun e W' => ∃ v, e = .returned v ∧ Rows.octetBackSpec.post enc Tryd.prog Tryd.f7 false true false false W args v W' := by
  have hT := tabs_of_laid hL
  have hW' := hW
  obtain ⟨p, q, hA0, hV, hbe, hfz, hnd⟩ := hW
  have hA : DataW.TrodAll enc Tryd.prog W 0 (fun _ => true) true Tryd.f7.params.toList args.toList ds p := hA0
  obtain ⟨rfl, rfl⟩ := trodVars_none hV
  rw [Tryd.params7] at hA hval
  obtain ⟨v0, vs0, d0, ds0, p0, q0, hargs, rfl, rfl, h0, r0⟩ := trodAll_cons hA
  obtain ⟨rfl, rfl, rfl⟩ := trodAll_nil r0
  obtain rfl : args = #[v0] := by cases args; simp_all
  obtain ⟨l0, u0, a0, z0, x0, rfl, hl0, ha0, hz0, hx0⟩ := asked_of_arg (hval 0 _ v0 rfl rfl) h0
  refine (law_back l0 a0 z0 x0 ha0 hz0 hx0 u0 W hT hl0).mono fun e W' ⟨he, hb⟩ => ⟨_, he, ?_⟩
  exact post_true hW' hA0 hbe rfl rfl (by kernel_rfl) rfl hb

set_option maxRecDepth 100000 in
theorem octetBack_lifted (os : Os) (started : os.Started) (H : Type) (enc : TypeId × Value → H) :
    ReturnsInHanded {} Tryd.checked os 7 .any (fun w args => (Rows.octetBackSpec.pre enc Tryd.prog Tryd.f7 Rows.octetBackRow.domain false w args ∧ laidMet Tryd.prog Rows.octetBackRow.laid w) ∧ sizedMet enc Tryd.prog Tryd.f7 (OpenSpec.ofChange Rows.octetBackSpec) false w args)
      (Rows.octetBackSpec.post enc Tryd.prog Tryd.f7 false true false false) := by
  refine returnsInHanded_of_change_and (C := Tryd.checked) (X := fun w _ => laidMet Tryd.prog Rows.octetBackRow.laid w) (fun _ _ _ hh h => h.of_heap hh) own started (by kernel_rfl) Tryd.func7
    (ChangeSpec.witness_at (enc := enc) (C := Tryd.checked) (os := os) (X := fun w _ => laidMet Tryd.prog Rows.octetBackRow.laid w) false (laidWorld os) #[.agg #[.slice none 0 0, .int .u8 0, .int .u8 0, .int .u64 0]] 8 rfl (by kernel_rfl) (by kernel_rfl) (by kernel_rfl) (by kernel_rfl) (by kernel_rfl) (laidWorld_met os _)) ?_
  intro W base args ds gs before hval hW _ _ hL _
  exact octetBack_contract W base args ds gs before hval hW hL

theorem octetBack_row : Rows.OctetBackSaid :=
  OpenClaim.holds_of_wide 7 Tryd.f7 rfl rfl rfl rfl rfl rfl rfl ⟨rfl, rfl, rfl, rfl, rfl⟩ rfl rfl rfl rfl rfl (by kernel_rfl) Tryd.func7 (by kernel_rfl)
    (of_decide_eq_true (by kernel_rfl)) (by unfold Func.isWrapper; first | (rw [if_pos (by decide +kernel)]; kernel_rfl) | (rw [if_neg (by decide +kernel)]; exact ⟨rfl, rfl⟩))
    (fun os started H enc _ => octetBack_lifted os started H enc)

theorem octetBack_proved : Rows.OctetBackCardSaid :=
  Claim7.holds_tied_plain_at .later [] [.data, .data, .data, .sentinel, .sentinel] true (true, "712ea9591f0ef38ca214dc7646283e663fad71180b3b907acfc2057f68144099") true
    octetBack_row (fun _ h => by cases h) (by kernel_rfl) (fun _ h => by cases h) octetBack_row_tie rfl ⟨rfl, rfl⟩ (by kernel_rfl) rfl
    (fun g fn hg hfn => by
      obtain rfl : g = 7 := Option.some.inj ((show Tryd.prog.funcNamed "footplate/footplatelaw01.OctetBack" = some 7 by kernel_rfl).symm.trans hg) |>.symm
      obtain rfl : fn = Tryd.f7 := (Option.some.inj (Tryd.func7.symm.trans hfn)).symm
      exact ⟨by kernel_rfl, fun j t ht => by
        rw [Tryd.params7] at ht
        have hm : t = 46 := by
          match j, ht with
          | 0, ht => cases ht; exact rfl
          | j + 1, ht => simp at ht
        rcases hm with rfl
        · exact (show Tryd.prog.wantsStandIn 46 = false by kernel_rfl)⟩)
    (by kernel_rfl)
end
end Go.Proofs.YtlefkmgcahpobaaDoor
