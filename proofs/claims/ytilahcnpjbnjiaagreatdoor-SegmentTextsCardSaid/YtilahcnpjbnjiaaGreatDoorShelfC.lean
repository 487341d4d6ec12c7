/- Library contracts laid at this translation, written by the kit's lay-plain tool. -/
import Derived.Shelf.Strings.Prefix
import Derived.Shelf.Slices.Reverse
import Derived.Ground.NamesProg
import Derived.Shelf.SlGeneric
import Derived.Test.YtilahcnpjbnjiaaGreatDoorProg
namespace Go.Proofs
open Go.Shelf
def Tryz.hasPrefix_ren : Go.Shelf.Ren := ⟨fun | 206 => 87 | n => n, fun | 9 => 9 | 4 => 4 | 3 => 3 | n => n, fun | n => n⟩
theorem Tryz.hasPrefix : Go.Proofs.Lays.n206 Tryz.prog Tryz.hasPrefix_ren := {
  mixed := by kernel_rfl
  f206 := Tryz.func87.trans (congrArg some (by kernel_rfl))
  t3 := Tryz.underlying3
  a3 := Tryz.isAgg3
  z3 := Tryz.sizeOf3
  v3 := Tryz.zeroValue3
  t4 := Tryz.underlying4
  a4 := Tryz.isAgg4
  z4 := Tryz.sizeOf4
  v4 := Tryz.zeroValue4
  t9 := Tryz.underlying9
  a9 := Tryz.isAgg9
  z9 := Tryz.sizeOf9
  v9 := Tryz.zeroValue9 }
def Tryz.reverseI_ren : Go.Shelf.Ren := ⟨fun | 112 => 38 | n => n, fun | 28 => 39 | 3 => 3 | 4 => 4 | 0 => 0 | n => n, fun | n => n⟩
theorem Tryz.reverseI : Go.Proofs.Lays.n112 Tryz.prog Tryz.reverseI_ren := {
  mixed := by kernel_rfl
  f112 := Tryz.func38.trans (congrArg some (by kernel_rfl))
  t0 := Tryz.underlying0
  a0 := Tryz.isAgg0
  z0 := Tryz.sizeOf0
  v0 := Tryz.zeroValue0
  t3 := Tryz.underlying3
  a3 := Tryz.isAgg3
  z3 := Tryz.sizeOf3
  v3 := Tryz.zeroValue3
  t4 := Tryz.underlying4
  a4 := Tryz.isAgg4
  z4 := Tryz.sizeOf4
  v4 := Tryz.zeroValue4
  t28 := Tryz.underlying39
  a28 := Tryz.isAgg39
  z28 := Tryz.sizeOf39
  v28 := Tryz.zeroValue39 }
end Go.Proofs
