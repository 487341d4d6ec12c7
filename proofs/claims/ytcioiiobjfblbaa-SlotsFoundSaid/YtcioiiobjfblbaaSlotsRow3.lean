/- SlotsFound returns true for every input, and what came in reads as it did; no condition. -/
import Derived.Test.YtcioiiobjfblbaaRow3
import Derived.Test.YtcioiiobjfblbaaSlotsLaw5
namespace Go.Proofs.Ytcioiiobjfblbaa
open Go.ChangeShapes Go.WideShapes Go.ChangeAt Go.RowKit Go.Deep Go.Joins
set_option linter.unusedVariables false
section
variable {H : Type} {enc : TypeId × Value → H}

set_option maxRecDepth 100000 in
theorem slotsFound_contract (W : World) (base : Nat) (args : Array Value) (ds gs : List (DataW H)) (before : List MemPlace)
    (hval : ∀ (j : Nat) t v, Try.f9.params[j]? = some t → args[j]? = some v → Value.okWide Try.prog W .any base t v)
    (hW : DataW.Whole enc Try.prog Try.f9.params.toList Rows.slotsFoundSpec.vars false W args.toList ds gs before) :
    Calls Try.prog 9 args W fun e W' => ∃ v, e = .returned v ∧ Rows.slotsFoundSpec.post enc Try.prog Try.f9 false true false false W args v W' := by
  have hW' := hW
  obtain ⟨p, q, hA0, hV, hbe, hfz, hnd⟩ := hW
  have hA : DataW.TrodAll enc Try.prog W 0 (fun _ => true) true Try.f9.params.toList args.toList ds p := hA0
  obtain ⟨rfl, rfl⟩ := trodVars_none hV
  rw [Try.params9] at hA hval
  obtain ⟨v0, vs0, d0, ds0, p0, q0, hargs, rfl, rfl, h0, r0⟩ := trodAll_cons hA
  obtain ⟨v1, vs1, d1, ds1, p1, q1, rfl, rfl, rfl, h1, r1⟩ := trodAll_cons r0
  obtain ⟨v2, vs2, d2, ds2, p2, q2, rfl, rfl, rfl, h2, r2⟩ := trodAll_cons r1
  obtain ⟨rfl, rfl, rfl⟩ := trodAll_nil r2
  obtain rfl : args = #[v0, v1, v2] := by cases args; simp_all
  obtain ⟨l0, hl0⟩ : ∃ l : List Int, (∀ x ∈ l, 0 ≤ x ∧ x ≤ 65535) ∧ SlR W 1 encU v0 l := by
    obtain ⟨l, hl⟩ := sl_of_arg (ec := fun y : { y : Int // 0 ≤ y ∧ y ≤ 65535 } => encU y.1) (fun _ => rfl) (by kernel_rfl) (by kernel_rfl) (hval 0 _ v0 rfl rfl) h0 (fun fuel cs x hl hh => by
      obtain ⟨y, e, hw⟩ := el_int Try.underlying61 fuel cs x hl hh
      exact ⟨⟨y, by simpa [Lit.wf, IntKind.min, IntKind.max, IntKind.signed, IntKind.bits] using hw⟩, e⟩)
    exact ⟨l.map (·.1), fun x hx => (by obtain ⟨y, _, rfl⟩ := List.mem_map.1 hx; exact y.2), SlR.map hl⟩
  obtain ⟨hb0, hl0⟩ := hl0
  obtain ⟨l1, hl1⟩ : ∃ l : List Int, (∀ x ∈ l, 0 ≤ x ∧ x ≤ 65535) ∧ SlR W 1 encU v1 l := by
    obtain ⟨l, hl⟩ := sl_of_arg (ec := fun y : { y : Int // 0 ≤ y ∧ y ≤ 65535 } => encU y.1) (fun _ => rfl) (by kernel_rfl) (by kernel_rfl) (hval 1 _ v1 rfl rfl) h1 (fun fuel cs x hl hh => by
      obtain ⟨y, e, hw⟩ := el_int Try.underlying61 fuel cs x hl hh
      exact ⟨⟨y, by simpa [Lit.wf, IntKind.min, IntKind.max, IntKind.signed, IntKind.bits] using hw⟩, e⟩)
    exact ⟨l.map (·.1), fun x hx => (by obtain ⟨y, _, rfl⟩ := List.mem_map.1 hx; exact y.2), SlR.map hl⟩
  obtain ⟨hb1, hl1⟩ := hl1
  obtain ⟨n2, rfl, _, _, wn2⟩ := open_int Try.underlying5 (hval 2 _ v2 rfl rfl) h2
  have hn2 : 0 ≤ n2 ∧ n2 ≤ 255 := by simpa [Lit.wf, IntKind.min, IntKind.max, IntKind.signed, IntKind.bits] using wn2
  refine (law_found_all l0 l1 hb0 hb1 n2 hn2.1 hn2.2 v0 v1 W hl0 hl1).mono fun e W' ⟨he, hb⟩ => ⟨_, he, ?_⟩
  exact post_true hW' hA0 hbe rfl rfl (by kernel_rfl) rfl hb

set_option maxRecDepth 100000 in
theorem slotsFound_lifted (os : Os) (started : os.Started) (H : Type) (enc : TypeId × Value → H) :
    ReturnsInHanded {} Try.checked os 9 .any (Rows.slotsFoundSpec.pre6 enc Try.prog Try.f9 Rows.slotsFoundRow.domain false) (Rows.slotsFoundSpec.post enc Try.prog Try.f9 false true false false) := by
  refine returnsInHanded_of_change (C := Try.checked) own started (by kernel_rfl) Try.func9
    (ChangeSpec.witness6 (enc := enc) (C := Try.checked) false ⟨#[], #[.slice none 0 0, .slice none 0 0, .int .u8 0], []⟩ 8 (by kernel_rfl) (by kernel_rfl) (by kernel_rfl) (by kernel_rfl)) ?_
  intro W base args ds gs before hval hW _ _
  exact slotsFound_contract W base args ds gs before hval hW

theorem slotsFound_proved : Rows.SlotsFoundSaid :=
  OpenClaim.holds_of_wide 9 Try.f9 rfl rfl rfl rfl rfl rfl rfl ⟨rfl, rfl, rfl, rfl, rfl⟩ rfl rfl rfl rfl rfl (by kernel_rfl) Try.func9 (by kernel_rfl)
    (of_decide_eq_true (by kernel_rfl)) (by unfold Func.isWrapper; first | (rw [if_pos (by decide +kernel)]; kernel_rfl) | (rw [if_neg (by decide +kernel)]; exact ⟨rfl, rfl⟩))
    (fun os started H enc _ => slotsFound_lifted os started H enc)
end
end Go.Proofs.Ytcioiiobjfblbaa
