/- The document's Bytes, Put. -/
import Derived.Test.YtilahcnpjbnjiaaDoorOctetRef
namespace Go.Proofs.YtilahcnpjbnjiaaDoor
set_option linter.unusedVariables false
set_option linter.unusedSimpArgs false
open Go.RowKit Go.Shelf Go.Proofs Go.OctetPlain

/-- 'string([]byte{c})' -/
theorem one_str (W : World) (c : Int) (h0 : 0 ≤ c) (h1 : c < 256) :
    (convert 63 9 (.slice (some ⟨W.heap.size, 0, none⟩) 1 1)).run Tryd.prog (W.alloc (.cells #[.int .u8 c] 5)) = .ok (.string (str [UInt8.ofNat c.toNat])) (W.alloc (.cells #[.int .u8 c] 5)) := by
  have hs : SlR (W.alloc (.cells #[.int .u8 c] 5)) 1 encB (.slice (some ⟨W.heap.size, 0, none⟩) 1 1) [UInt8.ofNat c.toNat] := by
    refine ⟨_, 1, rfl, Nat.le_refl _, by omega, (fun e => by cases e), fun a ha => ?_⟩
    cases ha
    refine ⟨rfl, by simp, fun i x hx j u hu => ?_⟩
    have hi : i = 0 := by have := (List.getElem?_eq_some_iff.1 hx).1; simpa using this
    subst hi
    simp at hx
    subst hx
    have hj : j = 0 := by have := (List.getElem?_eq_some_iff.1 hu).1; simpa [encB] using this
    subst hj
    simp [encB] at hu
    subst hu
    have e : ((UInt8.ofNat c.toNat).toNat : Int) = c := by rw [UInt8.toNat_ofNat']; omega
    rw [cell_of_row _ W.heap.size _ #[.int .u8 c] 5 (0, 0) (heap_alloc_new W _)]
    simp
    omega
  exact hs.str Tryd.underlying63 Tryd.underlying5 Tryd.underlying9

end Go.Proofs.YtilahcnpjbnjiaaDoor
