/- digit and Unhex, the program's and the document's. -/
import Derived.Test.YtjbolphfelakeaaDoorOctetRune
namespace Go.Proofs.YtjbolphfelakeaaDoor
set_option linter.unusedVariables false
set_option linter.unusedSimpArgs false
open Go.RowKit Go.Shelf Go.Proofs Go.OctetPlain

theorem dig_index : ∀ n : Fin 128, Lib.indexByte [48, 49, 50, 51, 52, 53, 54, 55, 56, 57, 97, 98, 99, 100, 101, 102] ((if 65 ≤ (n : Nat) ∧ (n : Nat) ≤ 70 then (n : Nat) + 32 else (n : Nat)).toUInt8) = dig (UInt8.ofNat n) := by decide +kernel

end Go.Proofs.YtjbolphfelakeaaDoor
