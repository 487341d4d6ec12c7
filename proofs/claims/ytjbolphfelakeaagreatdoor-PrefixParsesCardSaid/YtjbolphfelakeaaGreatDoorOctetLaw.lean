/- The laws of layer 1: awake. -/
import Derived.Test.YtjbolphfelakeaaGreatDoorOctetUnhex2
import Derived.Test.YtjbolphfelakeaaGreatDoorOctetUnhex3
import Derived.Test.YtjbolphfelakeaaGreatDoorOctetNum2
import Derived.Test.YtjbolphfelakeaaGreatDoorOctetFns3
import Derived.Test.YtjbolphfelakeaaGreatDoorLit
namespace Go.Proofs.YtjbolphfelakeaaGreatDoor
set_option linter.unusedVariables false
set_option linter.unusedSimpArgs false
open Go.RowKit Go.Shelf Go.Proofs Go.OctetPlain

theorem lit3 (w : World) : SlR (w.alloc (.cells #[.int .u8 1, .int .u8 2, .int .u8 3] 5)) 1 encB (.slice (some ⟨w.heap.size, 0, none⟩) 3 3) [1, 2, 3] := slr_lit encB_len w _ [1, 2, 3] (by decide) _ rfl
theorem SlR.ofB {w : World} {B : Nat} {v : Value} {l : List UInt8} {e : TypeId} (h : w.ownsRow B e 1 v l.length (flat encB l)) : SlR w 1 encB v l := by
  obtain ⟨p, cap, rfl, h1, h2, h3⟩ := owns_b h
  exact ⟨p, cap, rfl, h1, h2, h3⟩

theorem dec120 : Lib.decDigits (Int.toNat 120) = [49, 50, 48] := by
  rw [show Int.toNat 120 = 120 from rfl, dec_ge (by omega), show 120 / 10 = 12 from rfl, dec_ge (by omega), show 12 / 10 = 1 from rfl, dec_lt (by omega)]
  rfl
theorem itoa40 : Lib.itoa (-40) = [45, 52, 48] := by
  unfold Lib.itoa
  rw [if_pos (by omega), show (-40 : Int).natAbs = 40 from rfl, dec_ge (by omega), show 40 / 10 = 4 from rfl, dec_lt (by omega)]
  rfl

end Go.Proofs.YtjbolphfelakeaaGreatDoor
