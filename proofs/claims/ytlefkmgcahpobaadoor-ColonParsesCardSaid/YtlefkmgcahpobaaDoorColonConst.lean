/- Constants of layer 7's examples. -/
import Derived.Test.YtlefkmgcahpobaaDoorColonOf
namespace Go.Proofs.YtlefkmgcahpobaaDoor
open Go.OctetPlain Go.ColonPlain
abbrev adA : List UInt8 := [0, 0, 0, 0, 0, 0, 0, 0, 0, 0, 255, 255, 10, 0, 0, 1]
abbrev adB : List UInt8 := [0, 1, 0, 0, 0, 0, 0, 2, 0, 0, 0, 0, 0, 0, 0, 3]
theorem pA : parse [58, 58, 70, 70, 70, 70, 58, 49, 48, 46, 48, 46, 48, 46, 49] = some adA := by decide +kernel
theorem pB : parse [49, 58, 48, 58, 48, 58, 50, 58, 58, 51] = some adB := by decide +kernel
theorem pC : parse [49, 58, 58, 50, 58, 58, 51] = none := by decide +kernel
theorem sA : show_ adA = [58, 58, 102, 102, 102, 102, 58, 97, 48, 48, 58, 49] := by decide +kernel
theorem sB : show_ adB = [49, 58, 48, 58, 48, 58, 50, 58, 58, 51] := by decide +kernel
theorem sZ : show_ z16 = [58, 58] := by decide +kernel

end Go.Proofs.YtlefkmgcahpobaaDoor
