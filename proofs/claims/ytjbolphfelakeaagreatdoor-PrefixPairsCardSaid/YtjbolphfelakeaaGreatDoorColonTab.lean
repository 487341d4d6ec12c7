/- What the functions of layer 7 read beside their arguments. -/
import Derived.Test.YtjbolphfelakeaaGreatDoorOctetNum
namespace Go.Proofs.YtjbolphfelakeaaGreatDoor
set_option linter.unusedVariables false
set_option linter.unusedSimpArgs false
open Go.RowKit Go.Shelf Go.Proofs

/-- math/bits' table -/
def bruijn : List Int := [0, 1, 56, 2, 57, 49, 28, 3, 61, 58, 42, 50, 38, 29, 17, 4, 62, 47, 59, 36, 45, 43, 51, 22, 53, 39, 33, 30, 24, 18, 12, 5, 63, 55, 48, 27, 60, 41, 37, 16, 46, 35, 44, 21, 52, 32, 23, 11, 54, 26, 40, 15, 34, 20, 31, 10, 25, 14, 19, 9, 13, 8, 7, 6]
structure CT (w : World) : Prop where
  tz : Lib.TabIs Tryz.prog w "math/bits.deBruijn64tab" .u8 bruijn
  ml : ∃ m, w.cell? ⟨0, 0, none⟩ = some (.int .i64 m)
theorem CT.below {w w' : World} (h : CT w) (hb : Below w.heap.size w w') : CT w' := by
  refine ⟨var_below h.tz hb, ?_⟩
  obtain ⟨m, hm⟩ := h.ml
  have hlt : 0 < w.heap.size := by
    unfold World.cell? at hm
    cases hh : w.heap[0]? with
    | none => simp [hh] at hm
    | some o => exact (Array.getElem?_eq_some_iff.1 hh).1
  exact ⟨m, (hb.cell (p := ⟨0, 0, none⟩) hlt).trans hm⟩
theorem CT.next {w w' : World} (h : CT w) {B : Nat} (hb : Below B w w') (hB : w.heap.size ≤ B) : CT w' := h.below (hb.mono hB)
end Go.Proofs.YtjbolphfelakeaaGreatDoor
