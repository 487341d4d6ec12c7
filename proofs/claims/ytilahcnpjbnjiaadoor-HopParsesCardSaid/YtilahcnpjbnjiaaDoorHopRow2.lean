/- hopParses returns true for every input; the card. -/
import Derived.Test.YtilahcnpjbnjiaaDoorHopRow
import Derived.Test.YtilahcnpjbnjiaaDoorHopLawP
namespace Go.Proofs.YtilahcnpjbnjiaaDoor
open Go.ChangeShapes Go.WideShapes Go.ChangeAt Go.RowKit Go.Deep Go.Joins
open Go.ChangeMaps (open_string)
set_option linter.unusedVariables false
section
variable {H : Type} {enc : TypeId × Value → H}

set_option maxRecDepth 100000 in
theorem hopParses_contract (W : World) (base : Nat) (args : Array Value) (ds gs : List (DataW H)) (before : List MemPlace)
    (hval : ∀ (j : Nat) t v, Tryd.f4.params[j]? = some t → args[j]? = some v → Value.okWide Tryd.prog W .any base t v)
    (hW : DataW.Whole enc Tryd.prog Tryd.f4.params.toList Rows.hopParsesSpec.vars false W args.toList ds gs before) (hL : laidMet Tryd.prog Rows.hopParsesRow.laid W) (hS : W.ShapedOpen Tryd.prog) :
    Calls Tryd.prog 4 args W fun e W' => ∃ v, e = .returned v ∧ Rows.hopParsesSpec.post enc Tryd.prog Tryd.f4 false true false false W args v W' := by
  have hT := ht_of_laid hL hS
  have hW' := hW
  obtain ⟨p, q, hA0, hV, hbe, hfz, hnd⟩ := hW
  have hA : DataW.TrodAll enc Tryd.prog W 0 (fun _ => true) true Tryd.f4.params.toList args.toList ds p := hA0
  obtain ⟨rfl, rfl⟩ := trodVars_none hV
  rw [Tryd.params4] at hA hval
  obtain ⟨v0, vs0, d0, ds0, p0, q0, hargs, rfl, rfl, h0, r0⟩ := trodAll_cons hA
  obtain ⟨rfl, rfl, rfl⟩ := trodAll_nil r0
  obtain rfl : args = #[v0] := by cases args; simp_all
  obtain ⟨b0, rfl, _, _, hs0⟩ := open_string Tryd.underlying9 (hval 0 _ v0 rfl rfl) h0
  obtain ⟨s0, rfl, hsl0⟩ := str_of b0
  refine (law_parses s0 (by have := hs0; unfold maxLen at this; omega) W hT).mono fun e W' ⟨he, hb⟩ => ⟨_, he, ?_⟩
  exact post_true hW' hA0 hbe rfl rfl (by kernel_rfl) rfl hb

set_option maxRecDepth 100000 in
theorem hopParses_lifted (os : Os) (started : os.Started) (H : Type) (enc : TypeId × Value → H) :
    ReturnsInHanded {} Tryd.checked os 4 .any (fun w args => (Rows.hopParsesSpec.pre enc Tryd.prog Tryd.f4 Rows.hopParsesRow.domain false w args ∧ laidMet Tryd.prog Rows.hopParsesRow.laid w) ∧ sizedMet enc Tryd.prog Tryd.f4 (OpenSpec.ofChange Rows.hopParsesSpec) false w args)
      (Rows.hopParsesSpec.post enc Tryd.prog Tryd.f4 false true false false) := by
  refine returns_and_shaped (C := Tryd.checked) (X := fun w _ => laidMet Tryd.prog Rows.hopParsesRow.laid w) (fun _ _ _ hh h => h.of_heap hh) own started (by kernel_rfl) Tryd.func4
    (ChangeSpec.witness_at (enc := enc) (C := Tryd.checked) (os := os) (X := fun w _ => laidMet Tryd.prog Rows.hopParsesRow.laid w) false (laidWorld os) #[.string ⟨#[]⟩] 8 rfl (by kernel_rfl) (by kernel_rfl) (by kernel_rfl) (by kernel_rfl) (by kernel_rfl) (laidWorld_met os _)) ?_
  intro W base args ds gs before hval hW _ _ hL hS _
  exact hopParses_contract W base args ds gs before hval hW hL hS

theorem hopParses_row : Rows.HopParsesSaid :=
  OpenClaim.holds_of_wide 4 Tryd.f4 rfl rfl rfl rfl rfl rfl rfl ⟨rfl, rfl, rfl, rfl, rfl⟩ rfl rfl rfl rfl rfl (by kernel_rfl) Tryd.func4 (by kernel_rfl)
    (of_decide_eq_true (by kernel_rfl)) (by unfold Func.isWrapper; first | (rw [if_pos (by decide +kernel)]; kernel_rfl) | (rw [if_neg (by decide +kernel)]; exact ⟨rfl, rfl⟩))
    (fun os started H enc _ => hopParses_lifted os started H enc)

theorem hopParses_proved : Rows.HopParsesCardSaid :=
  Claim7.holds_tied_plain_at .later [] [.data, .data, .data, .data, .sentinel, .sentinel, .pinned] true (true, "d1a5285f62873c471613fc737913f1923e517b8c2ae0da291e7d04034d28e09d") true
    hopParses_row (fun _ h => by cases h) (by kernel_rfl) (fun _ h => by cases h) hopParses_row_tie rfl ⟨rfl, rfl⟩ (by kernel_rfl) rfl
    (fun g fn hg hfn => by
      obtain rfl : g = 4 := Option.some.inj ((show Tryd.prog.funcNamed "footplate/footplatelaw15.HopParses" = some 4 by kernel_rfl).symm.trans hg) |>.symm
      obtain rfl : fn = Tryd.f4 := (Option.some.inj (Tryd.func4.symm.trans hfn)).symm
      exact ⟨by kernel_rfl, fun j t ht => by
        rw [Tryd.params4] at ht
        have hm : t = 9 := by
          match j, ht with
          | 0, ht => cases ht; exact rfl
          | j + 1, ht => simp at ht
        rcases hm with rfl
        · exact (show Tryd.prog.wantsStandIn 9 = false by kernel_rfl)⟩)
    (by kernel_rfl)
end
end Go.Proofs.YtilahcnpjbnjiaaDoor
