/- The rows of layer 15: an argument of unsigned numbers. -/
import Derived.Test.YtilahcnpjbnjiaaDoorHopRow
import Derived.Test.YtilahcnpjbnjiaaDoorHopAnyG
namespace Go.Proofs.YtilahcnpjbnjiaaDoor
open Go.ChangeShapes Go.WideShapes Go.ChangeAt Go.RowKit Go.Deep Go.Joins
set_option linter.unusedVariables false
set_option linter.unusedSimpArgs false
section
variable {H : Type} {enc : TypeId × Value → H}
set_option maxRecDepth 100000 in
theorem u16s_of_arg {W : World} {base : Nat} {v : Value} {d : DataW H} {ps : List MemPlace} (hv : Value.okWide Tryd.prog W .any base 36 v) (h : DataW.Trod enc Tryd.prog W 0 (fun _ => true) true 36 v d ps) : ∃ l : List Int, SlR W 1 encH v l ∧ ∀ n ∈ l, 0 ≤ n ∧ n ≤ 65535 := by
  obtain ⟨l, hl⟩ := sl_of_arg (α := { n : Int // 0 ≤ n ∧ n ≤ 65535 }) (ec := fun y => encH y.1) (fun _ => rfl) (by kernel_rfl) (by kernel_rfl) hv h (fun fuel cs x hl hh => by
    obtain ⟨y, e, hw⟩ := el_int Tryd.underlying37 fuel cs x hl hh
    exact ⟨⟨y, by simpa [Lit.wf, IntKind.min, IntKind.max, IntKind.signed, IntKind.bits] using hw⟩, e⟩)
  refine ⟨l.map (·.1), ?_, fun n hn => ?_⟩
  · obtain ⟨p, cap, rfl, h1, h2, h3, h4⟩ := hl
    refine ⟨p, cap, by rw [List.length_map], by rw [List.length_map]; exact h1, h2, fun e => by rw [List.length_map]; exact h3 e, fun a ha => ?_⟩
    obtain ⟨g1, g2, g3⟩ := h4 a ha
    refine ⟨g1, g2, fun i x hx j u hu => ?_⟩
    rw [List.getElem?_map] at hx
    cases hy : l[i]? with
    | none => rw [hy] at hx; cases hx
    | some y =>
      rw [hy] at hx
      cases hx
      exact g3 i y hy j u hu
  · obtain ⟨y, _, rfl⟩ := List.mem_map.1 hn
    exact y.2
end
end Go.Proofs.YtilahcnpjbnjiaaDoor
