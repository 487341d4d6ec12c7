/- SpansCount returns true for every input, and what came in reads as it did; no condition. -/
import Derived.Test.YtcioiiobjfblbaaSpansRow
import Derived.Test.YtcioiiobjfblbaaSpansLaw4
namespace Go.Proofs.Ytcioiiobjfblbaa
open Go.ChangeShapes Go.WideShapes Go.ChangeAt Go.RowKit Go.Deep Go.Joins
set_option linter.unusedVariables false
section
variable {H : Type} {enc : TypeId × Value → H}

set_option maxRecDepth 100000 in
theorem spansCount_contract (W : World) (base : Nat) (args : Array Value) (ds gs : List (DataW H)) (before : List MemPlace)
    (hval : ∀ (j : Nat) t v, Try.f7.params[j]? = some t → args[j]? = some v → Value.okWide Try.prog W .any base t v)
    (hW : DataW.Whole enc Try.prog Try.f7.params.toList Rows.spansCountSpec.vars false W args.toList ds gs before) :
    Calls Try.prog 7 args W fun e W' => ∃ v, e = .returned v ∧ Rows.spansCountSpec.post enc Try.prog Try.f7 false true false false W args v W' := by
  have hW' := hW
  obtain ⟨p, q, hA0, hV, hbe, hfz, hnd⟩ := hW
  have hA : DataW.TrodAll enc Try.prog W 0 (fun _ => true) true Try.f7.params.toList args.toList ds p := hA0
  obtain ⟨rfl, rfl⟩ := trodVars_none hV
  rw [Try.params7] at hA hval
  obtain ⟨v0, vs0, d0, ds0, p0, q0, hargs, rfl, rfl, h0, r0⟩ := trodAll_cons hA
  obtain ⟨v1, vs1, d1, ds1, p1, q1, rfl, rfl, rfl, h1, r1⟩ := trodAll_cons r0
  obtain ⟨rfl, rfl, rfl⟩ := trodAll_nil r1
  obtain rfl : args = #[v0, v1] := by cases args; simp_all
  obtain ⟨l0, hl0⟩ := slr_of_arg (by kernel_rfl) Try.underlying24 cells_sp rfl rfl rfl rfl cells_int Try.underlying3 (hval 0 _ v0 rfl rfl) h0
  obtain ⟨s1, rfl⟩ := sp_of_arg Try.underlying24 (by kernel_rfl) cells_sp rfl rfl Try.underlying3 (hval 1 _ v1 rfl rfl) h1
  refine (law_count l0 s1 v0 W hl0).mono fun e W' ⟨he, hb⟩ => ⟨_, he, ?_⟩
  exact post_true hW' hA0 hbe rfl rfl (by kernel_rfl) rfl hb

set_option maxRecDepth 100000 in
theorem spansCount_lifted (os : Os) (started : os.Started) (H : Type) (enc : TypeId × Value → H) :
    ReturnsInHanded {} Try.checked os 7 .any (Rows.spansCountSpec.pre6 enc Try.prog Try.f7 Rows.spansCountRow.domain false) (Rows.spansCountSpec.post enc Try.prog Try.f7 false true false false) := by
  refine returnsInHanded_of_change (C := Try.checked) own started (by kernel_rfl) Try.func7
    (ChangeSpec.witness6 (enc := enc) (C := Try.checked) false ⟨#[], #[.slice none 0 0, .agg #[.int .i64 0, .int .i64 0]], []⟩ 8 (by kernel_rfl) (by kernel_rfl) (by kernel_rfl) (by kernel_rfl)) ?_
  intro W base args ds gs before hval hW _ _
  exact spansCount_contract W base args ds gs before hval hW

theorem spansCount_proved : Rows.SpansCountSaid :=
  OpenClaim.holds_of_wide 7 Try.f7 rfl rfl rfl rfl rfl rfl rfl ⟨rfl, rfl, rfl, rfl, rfl⟩ rfl rfl rfl rfl rfl (by kernel_rfl) Try.func7 (by kernel_rfl)
    (of_decide_eq_true (by kernel_rfl)) (by unfold Func.isWrapper; first | (rw [if_pos (by decide +kernel)]; kernel_rfl) | (rw [if_neg (by decide +kernel)]; exact ⟨rfl, rfl⟩))
    (fun os started H enc _ => spansCount_lifted os started H enc)
end
end Go.Proofs.Ytcioiiobjfblbaa
