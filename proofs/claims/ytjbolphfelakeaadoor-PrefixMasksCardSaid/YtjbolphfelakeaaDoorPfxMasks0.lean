/- The laws of layer 8: Masks. -/
import Derived.Test.YtjbolphfelakeaaDoorPfxLaw
namespace Go.Proofs.YtjbolphfelakeaaDoor
set_option linter.unusedVariables false
set_option linter.unusedSimpArgs false
open Go.RowKit Go.Shelf Go.Proofs Go.OctetPlain Go.ColonPlain Go.PrefixPlain

/-- an address and two prefixes -/
structure MS (w W : World) (g1 g2 : Nat) (a : List UInt8) (p q : Pf) : Prop where
  ba : Blk W w.heap.size 22 (arrB a)
  bp : Blk W g1 24 (pfA p)
  bq : Blk W g2 24 (pfA q)
  below : Below w.heap.size w W
theorem MS.next {w W W' : World} {g1 g2 : Nat} {a : List UInt8} {p q : Pf} (h : MS w W g1 g2 a p q) (hb : Below W.heap.size W W') : MS w W' g1 g2 a p q :=
  ⟨h.ba.below hb h.ba.lt, h.bp.below hb h.bp.lt, h.bq.below hb h.bq.lt, h.below.trans (hb.mono h.below.size)⟩
theorem MS.drew {w W : World} {g1 g2 : Nat} {a : List UInt8} {p q : Pf} (h : MS w W g1 g2 a p q) : MS w W.drew g1 g2 a p q := h.next (Below.refl _ _).drew
theorem ofP_len64 (six : Bool) (a : List UInt8) (n : Int) : Len64 (ofP six a n) := by
  have := most_pos six
  unfold Len64
  show _ ≤ min (max n 0) (most six) ∧ min (max n 0) (most six) ≤ _
  omega
end Go.Proofs.YtjbolphfelakeaaDoor
