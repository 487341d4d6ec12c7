/- The laws of layer 8: Masks. -/
import Derived.Test.YtjbolphfelakeaaDoorPfxMasksA
import Derived.Test.YtjbolphfelakeaaDoorPfxMasksB
import Derived.Test.YtjbolphfelakeaaDoorPfxMasksC
namespace Go.Proofs.YtjbolphfelakeaaDoor
set_option linter.unusedVariables false
set_option linter.unusedSimpArgs false
open Go.RowKit Go.Shelf Go.Proofs Go.OctetPlain Go.ColonPlain Go.PrefixPlain

theorem law_masks (six : Bool) (a : List UInt8) (ha : a.length = 16) (m n : Nat) (hm : m ≤ 255) (hn : n ≤ 255) (w : World) (ht : PT w) :
    Calls Tryd.prog 5 #[.bool six, .agg (arrB a), .agg #[.int .u8 (m : Int), .int .u8 (n : Int)]] w fun e w' => e = .returned (.bool true) ∧ Below w.heap.size w w' := by
  rcases Nat.lt_trichotomy n m with h | h | h
  · exact law_masksA six a ha m n hm hn h w ht
  · exact law_masksB six a ha m n hm hn h w ht
  · exact law_masksC six a ha m n hm hn h w ht
end Go.Proofs.YtjbolphfelakeaaDoor
