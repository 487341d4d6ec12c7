/- colonOf returns true for every input; the card. -/
import Derived.Test.YtlefkmgcahpobaaDoorColonRow
import Derived.Test.YtlefkmgcahpobaaDoorColonLawOf
namespace Go.Proofs.YtlefkmgcahpobaaDoor
open Go.ChangeShapes Go.WideShapes Go.ChangeAt Go.RowKit Go.Deep Go.Joins
open Go.ChangeMaps (open_string)
set_option linter.unusedVariables false
section
variable {H : Type} {enc : TypeId × Value → H}

set_option maxRecDepth 100000 in
theorem colonOf_contract (W : World) (base : Nat) (args : Array Value) (ds gs : List (DataW H)) (before : List MemPlace)
    (hval : ∀ (j : Nat) t v, Tryd.f11.params[j]? = some t → args[j]? = some v → Value.okWide Tryd.prog W .any base t v)
    (hW : DataW.Whole enc Tryd.prog Tryd.f11.params.toList Rows.colonOfSpec.vars false W args.toList ds gs before) (hL : laidMet Tryd.prog Rows.colonOfRow.laid W) (hS : W.ShapedOpen Tryd.prog) :
    Calls Tryd.prog 11 args W fun e W' => ∃ v, e = .returned v ∧ Rows.colonOfSpec.post enc Tryd.prog Tryd.f11 false true false false W args v W' := by
  have hT := ct_of_laid hL hS
  have hW' := hW
  obtain ⟨p, q, hA0, hV, hbe, hfz, hnd⟩ := hW
  have hA : DataW.TrodAll enc Tryd.prog W 0 (fun _ => true) true Tryd.f11.params.toList args.toList ds p := hA0
  obtain ⟨rfl, rfl⟩ := trodVars_none hV
  rw [Tryd.params11] at hA hval
  obtain ⟨v0, vs0, d0, ds0, p0, q0, hargs, rfl, rfl, h0, r0⟩ := trodAll_cons hA
  obtain ⟨rfl, rfl, rfl⟩ := trodAll_nil r0
  obtain rfl : args = #[v0] := by cases args; simp_all
  obtain ⟨l0, hl0, hb0, rfl⟩ := arr8_of_arg (hval 0 _ v0 rfl rfl) h0
  refine (law_of l0 hl0 hb0 W hT).mono fun e W' ⟨he, hb⟩ => ⟨_, he, ?_⟩
  exact post_true hW' hA0 hbe rfl rfl (by kernel_rfl) rfl hb

set_option maxRecDepth 100000 in
theorem colonOf_lifted (os : Os) (started : os.Started) (H : Type) (enc : TypeId × Value → H) :
    ReturnsInHanded {} Tryd.checked os 11 .any (fun w args => (Rows.colonOfSpec.pre enc Tryd.prog Tryd.f11 Rows.colonOfRow.domain false w args ∧ laidMet Tryd.prog Rows.colonOfRow.laid w) ∧ sizedMet enc Tryd.prog Tryd.f11 (OpenSpec.ofChange Rows.colonOfSpec) false w args)
      (Rows.colonOfSpec.post enc Tryd.prog Tryd.f11 false true false false) := by
  refine returns_and_shaped (C := Tryd.checked) (X := fun w _ => laidMet Tryd.prog Rows.colonOfRow.laid w) (fun _ _ _ hh h => h.of_heap hh) own started (by kernel_rfl) Tryd.func11
    (ChangeSpec.witness_at (enc := enc) (C := Tryd.checked) (os := os) (X := fun w _ => laidMet Tryd.prog Rows.colonOfRow.laid w) false (laidWorldC os) #[.agg (Array.replicate 8 (.int .i64 0))] 8 rfl (by kernel_rfl) (by kernel_rfl) (by kernel_rfl) (by kernel_rfl) (by kernel_rfl) (laidWorldC_met os _)) ?_
  intro W base args ds gs before hval hW _ _ hL hS _
  exact colonOf_contract W base args ds gs before hval hW hL hS

theorem colonOf_row : Rows.ColonOfSaid :=
  OpenClaim.holds_of_wide 11 Tryd.f11 rfl rfl rfl rfl rfl rfl rfl ⟨rfl, rfl, rfl, rfl, rfl⟩ rfl rfl rfl rfl rfl (by kernel_rfl) Tryd.func11 (by kernel_rfl)
    (of_decide_eq_true (by kernel_rfl)) (by unfold Func.isWrapper; first | (rw [if_pos (by decide +kernel)]; kernel_rfl) | (rw [if_neg (by decide +kernel)]; exact ⟨rfl, rfl⟩))
    (fun os started H enc _ => colonOf_lifted os started H enc)

theorem colonOf_proved : Rows.ColonOfCardSaid :=
  Claim7.holds_tied_plain_at .later [] [.data, .data, .data, .data, .pinned] true (true, "712ea9591f0ef38ca214dc7646283e663fad71180b3b907acfc2057f68144099") true
    colonOf_row (fun _ h => by cases h) (by kernel_rfl) (fun _ h => by cases h) colonOf_row_tie rfl ⟨rfl, rfl⟩ (by kernel_rfl) rfl
    (fun g fn hg hfn => by
      obtain rfl : g = 11 := Option.some.inj ((show Tryd.prog.funcNamed "footplate/footplatelaw07.ColonOf" = some 11 by kernel_rfl).symm.trans hg) |>.symm
      obtain rfl : fn = Tryd.f11 := (Option.some.inj (Tryd.func11.symm.trans hfn)).symm
      exact ⟨by kernel_rfl, fun j t ht => by
        rw [Tryd.params11] at ht
        have hm : t = 52 := by
          match j, ht with
          | 0, ht => cases ht; exact rfl
          | j + 1, ht => simp at ht
        rcases hm with rfl
        · exact (show Tryd.prog.wantsStandIn 52 = false by kernel_rfl)⟩)
    (by kernel_rfl)
end
end Go.Proofs.YtlefkmgcahpobaaDoor
