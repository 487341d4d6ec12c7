/- Arguments of the rows of layer 7: arrays of bytes, of numbers; a bool. -/
import Derived.Test.YtjbolphfelakeaaGreatDoorRow3
import Derived.Test.YtjbolphfelakeaaGreatDoorArr
import Derived.Lib.LaidTab
namespace Go.Proofs.YtjbolphfelakeaaGreatDoor
open Go.ChangeShapes Go.WideShapes Go.ChangeAt Go.RowKit Go.Deep Go.Joins
set_option linter.unusedVariables false
set_option linter.unusedSimpArgs false
section
variable {H : Type} {enc : TypeId × Value → H}

theorem cells_ints {P : Program} {w : World} {base : Nat} {sp : Nat → Bool} {held : Bool} {fuel : Nat} {t e : TypeId} {n : Nat} {k : IntKind} {cs : List Value} {x : DataW H × List MemPlace}
    (ht : P.underlying t = some (.array n e)) (he : P.underlying e = some (.int k)) (hce : P.cellsOf e = 1) (hct : P.cellsOf t = n)
    (h : DataW.trod enc P w base sp held fuel t cs = some x) : ∀ i, i < n → ∃ z : Int, cs[i]? = some (.int k z) ∧ (Lit.int k z).wf = true := by
  cases fuel with
  | zero => simp [DataW.trod] at h
  | succ fuel =>
    simp only [DataW.trod, ht, hce, hct, Nat.mul_one] at h
    split at h
    · rename_i hl
      obtain ⟨xs, hm, hx⟩ := Option.map_eq_some_iff.1 h
      intro i hi
      obtain ⟨b, hb, hf⟩ := Lib.mapM_at hm i i (by simp [hi])
      obtain ⟨z, hc, _, hw⟩ := DataW.trod_int he hf
      have h1 : cs[i]? = some (.int k z) := by
        have := congrArg (·[0]?) hc
        simpa [List.getElem?_take, List.getElem?_drop] using this
      exact ⟨z, h1, hw⟩
    · cases h
theorem ints_of_arg {P : Program} {W : World} {base : Nat} {t e : TypeId} {n : Nat} {k : IntKind} {v : Value} {d : DataW H} {ps : List MemPlace}
    (ht : P.underlying t = some (.array n e)) (he : P.underlying e = some (.int k)) (hce : P.cellsOf e = 1) (hct : P.cellsOf t = n)
    (hv : Value.okWide P W .any base t v) (h : DataW.Trod enc P W 0 (fun _ => true) true t v d ps) : ∃ l : List Int, l.length = n ∧ (∀ (i : Nat) z, l[i]? = some z → (Lit.int k z).wf = true) ∧ v = .agg (l.map (Value.int k)).toArray := by
  simp only [Value.okWide, ht] at hv
  obtain ⟨cs, rfl, hsz, _⟩ := hv
  obtain ⟨fuel, hf⟩ := h
  have hc := cells_ints ht he hce hct hf
  obtain ⟨l, hl, hq⟩ := list_at (Q := fun i z => cs[i]? = some (Value.int k z) ∧ (Lit.int k z).wf = true) n (fun i hi => by
    obtain ⟨z, h1, h2⟩ := hc i hi
    exact ⟨z, by simpa [Value.cells] using h1, h2⟩)
  refine ⟨l, hl, fun i z hz => (hq i z hz).2, ?_⟩
  congr 1
  apply Array.ext_getElem?
  intro i
  by_cases hi : i < n
  · have hz : l[i]? = some l[i] := List.getElem?_eq_getElem (by omega)
    rw [(hq i _ hz).1]
    simp [hz]
  · rw [Array.getElem?_eq_none (by omega), Array.getElem?_eq_none (by simp; omega)]
end
end Go.Proofs.YtjbolphfelakeaaGreatDoor
