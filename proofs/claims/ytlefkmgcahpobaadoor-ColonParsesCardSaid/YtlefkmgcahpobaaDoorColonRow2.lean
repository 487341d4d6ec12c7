/- colonParses returns true for every input; the card. -/
import Derived.Test.YtlefkmgcahpobaaDoorColonRow
import Derived.Test.YtlefkmgcahpobaaDoorColonLawParses
namespace Go.Proofs.YtlefkmgcahpobaaDoor
open Go.ChangeShapes Go.WideShapes Go.ChangeAt Go.RowKit Go.Deep Go.Joins
open Go.ChangeMaps (open_string)
set_option linter.unusedVariables false
section
variable {H : Type} {enc : TypeId × Value → H}

set_option maxRecDepth 100000 in
theorem colonParses_contract (W : World) (base : Nat) (args : Array Value) (ds gs : List (DataW H)) (before : List MemPlace)
    (hval : ∀ (j : Nat) t v, Tryd.f10.params[j]? = some t → args[j]? = some v → Value.okWide Tryd.prog W .any base t v)
    (hW : DataW.Whole enc Tryd.prog Tryd.f10.params.toList Rows.colonParsesSpec.vars false W args.toList ds gs before) (hL : laidMet Tryd.prog Rows.colonParsesRow.laid W) (hS : W.ShapedOpen Tryd.prog) :
    Calls Tryd.prog 10 args W fun e W' => ∃ v, e = .returned v ∧ Rows.colonParsesSpec.post enc Tryd.prog Tryd.f10 false true false false W args v W' := by
  have hT := ct_of_laid hL hS
  have hW' := hW
  obtain ⟨p, q, hA0, hV, hbe, hfz, hnd⟩ := hW
  have hA : DataW.TrodAll enc Tryd.prog W 0 (fun _ => true) true Tryd.f10.params.toList args.toList ds p := hA0
  obtain ⟨rfl, rfl⟩ := trodVars_none hV
  rw [Tryd.params10] at hA hval
  obtain ⟨v0, vs0, d0, ds0, p0, q0, hargs, rfl, rfl, h0, r0⟩ := trodAll_cons hA
  obtain ⟨rfl, rfl, rfl⟩ := trodAll_nil r0
  obtain rfl : args = #[v0] := by cases args; simp_all
  obtain ⟨b0, rfl, _, _, hs0⟩ := open_string Tryd.underlying9 (hval 0 _ v0 rfl rfl) h0
  obtain ⟨s0, rfl, hsl0⟩ := str_of b0
  refine (law_parses s0 W hT).mono fun e W' ⟨he, hb⟩ => ⟨_, he, ?_⟩
  exact post_true hW' hA0 hbe rfl rfl (by kernel_rfl) rfl hb

set_option maxRecDepth 100000 in
theorem colonParses_lifted (os : Os) (started : os.Started) (H : Type) (enc : TypeId × Value → H) :
    ReturnsInHanded {} Tryd.checked os 10 .any (fun w args => (Rows.colonParsesSpec.pre enc Tryd.prog Tryd.f10 Rows.colonParsesRow.domain false w args ∧ laidMet Tryd.prog Rows.colonParsesRow.laid w) ∧ sizedMet enc Tryd.prog Tryd.f10 (OpenSpec.ofChange Rows.colonParsesSpec) false w args)
      (Rows.colonParsesSpec.post enc Tryd.prog Tryd.f10 false true false false) := by
  refine returns_and_shaped (C := Tryd.checked) (X := fun w _ => laidMet Tryd.prog Rows.colonParsesRow.laid w) (fun _ _ _ hh h => h.of_heap hh) own started (by kernel_rfl) Tryd.func10
    (ChangeSpec.witness_at (enc := enc) (C := Tryd.checked) (os := os) (X := fun w _ => laidMet Tryd.prog Rows.colonParsesRow.laid w) false (laidWorldC os) #[.string ⟨#[]⟩] 8 rfl (by kernel_rfl) (by kernel_rfl) (by kernel_rfl) (by kernel_rfl) (by kernel_rfl) (laidWorldC_met os _)) ?_
  intro W base args ds gs before hval hW _ _ hL hS _
  exact colonParses_contract W base args ds gs before hval hW hL hS

theorem colonParses_row : Rows.ColonParsesSaid :=
  OpenClaim.holds_of_wide 10 Tryd.f10 rfl rfl rfl rfl rfl rfl rfl ⟨rfl, rfl, rfl, rfl, rfl⟩ rfl rfl rfl rfl rfl (by kernel_rfl) Tryd.func10 (by kernel_rfl)
    (of_decide_eq_true (by kernel_rfl)) (by unfold Func.isWrapper; first | (rw [if_pos (by decide +kernel)]; kernel_rfl) | (rw [if_neg (by decide +kernel)]; exact ⟨rfl, rfl⟩))
    (fun os started H enc _ => colonParses_lifted os started H enc)

theorem colonParses_proved : Rows.ColonParsesCardSaid :=
  Claim7.holds_tied_plain_at .later [] [.data, .data, .data, .data, .pinned] true (true, "712ea9591f0ef38ca214dc7646283e663fad71180b3b907acfc2057f68144099") true
    colonParses_row (fun _ h => by cases h) (by kernel_rfl) (fun _ h => by cases h) colonParses_row_tie rfl ⟨rfl, rfl⟩ (by kernel_rfl) rfl
    (fun g fn hg hfn => by
      obtain rfl : g = 10 := Option.some.inj ((show Tryd.prog.funcNamed "footplate/footplatelaw07.ColonParses" = some 10 by kernel_rfl).symm.trans hg) |>.symm
      obtain rfl : fn = Tryd.f10 := (Option.some.inj (Tryd.func10.symm.trans hfn)).symm
      exact ⟨by kernel_rfl, fun j t ht => by
        rw [Tryd.params10] at ht
        have hm : t = 9 := by
          match j, ht with
          | 0, ht => cases ht; exact rfl
          | j + 1, ht => simp at ht
        rcases hm with rfl
        · exact (show Tryd.prog.wantsStandIn 9 = false by kernel_rfl)⟩)
    (by kernel_rfl)
end
end Go.Proofs.YtlefkmgcahpobaaDoor
