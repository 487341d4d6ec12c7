/- The laws of layer 1: Cuts. -/
import Derived.Test.YtjbolphfelakeaaGreatDoorOctetLaw2
namespace Go.Proofs.YtjbolphfelakeaaGreatDoor
set_option linter.unusedVariables false
set_option linter.unusedSimpArgs false
open Go.RowKit Go.Shelf Go.Proofs Go.OctetPlain

theorem cut_front (l : List UInt8) (k : Nat) (h : k ≤ l.length) : cutL l 0 (k : Int) = l.take k := by
  rw [cutL_of (by unfold there; omega)]
  simp
theorem cut_rest (l : List UInt8) (k : Nat) (h : k ≤ l.length) : cutL l (k : Int) ((l.length : Int) - k) = l.drop k := by
  rw [cutL_of (by unfold there; omega)]
  rw [List.take_of_length_le (by rw [List.length_drop]; omega)]
  simp
theorem cut_last (l : List UInt8) (n : Nat) (h : n ≤ l.length) : cutL l ((l.length : Int) - n) (n : Int) = l.drop (l.length - n) := by
  rw [cutL_of (by unfold there; omega)]
  rw [List.take_of_length_le (by rw [List.length_drop]; omega)]
  congr 1
  omega

structure TC (w : World) (v : Value) (l : List UInt8) (vx : Value) (x : List UInt8) (vy : Value) (y : List UInt8) (W : World) : Prop where
  v : SlR W 1 encB v l
  x : SlR W 1 encB vx x
  y : SlR W 1 encB vy y
  below : Below w.heap.size w W
theorem TC.next {w : World} {v vx vy : Value} {l x y : List UInt8} {W W' : World} (h : TC w v l vx x vy y W) (hb : Below W.heap.size W W') : TC w v l vx x vy y W' :=
  ⟨h.v.below hb (Nat.le_refl _), h.x.below hb (Nat.le_refl _), h.y.below hb (Nat.le_refl _), h.below.trans (hb.mono h.below.size)⟩

end Go.Proofs.YtjbolphfelakeaaGreatDoor
