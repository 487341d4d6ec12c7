/- octet.Unhex. -/
import Derived.Test.YtjbolphfelakeaaGreatDoorOctetUnhex
namespace Go.Proofs.YtjbolphfelakeaaGreatDoor
set_option linter.unusedVariables false
set_option linter.unusedSimpArgs false
open Go.RowKit Go.Shelf Go.Proofs Go.OctetPlain

theorem owns_iter {w : World} {base : Nat} {e : TypeId} {size : Nat} {v : Value} {n : Nat} {xs : List Value} (h : w.ownsRow base e size v n xs) {k : Nat} {s : ByteArray} {pos : Nat} (hk : w.heap[k]? = some (.stringIter s pos)) (pos' : Nat) :
    (w.iterAt k s pos').ownsRow base e size v n xs := by
  refine ⟨h.1, ?_⟩
  rcases h.2 with h0 | ⟨g, cap, cur, hv, hb, hg, r⟩
  · exact .inl h0
  · refine .inr ⟨g, cap, cur, hv, hb, ?_, r⟩
    rw [Lib.iterAt_other w k g s pos' (fun e => by subst e; rw [hk] at hg; cases hg)]
    exact hg
theorem or16 : ∀ a b : Fin 16, bits .or .i64 (((a : Nat) : Int) * 16) ((b : Nat) : Int) = (((a : Nat) * 16 + (b : Nat) : Nat) : Int) := by decide +kernel
theorem get_str (l : List UInt8) (i : Nat) (h : i < l.length) : (str l).get! i = l[i] := by
  have : (str l).get! i = l.toArray[i]! := rfl
  rw [this]
  simp [h]
theorem dig_big {c : UInt8} (h : 128 ≤ c.toNat) : dig c = -1 := by
  unfold dig
  rw [if_neg (by omega), if_neg (by omega), if_neg (by omega)]

/-- Unhex, behind pos bytes -/
structure UH (w : World) (l : List UInt8) (v : Value) (hi : Int) (wr : World) (pos : Nat) (o : List UInt8) : Prop where
  lo : -1 ≤ hi
  up : hi ≤ 15
  le : pos ≤ l.length
  len : o.length ≤ pos
  iter : wr.heap[w.heap.size]? = some (.stringIter (str l) pos)
  own : wr.ownsRow (w.heap.size + 1) 5 1 v o.length (flat encB o)
  below : Below w.heap.size w wr
  eq : unhexFrom (-1) [] l = unhexFrom hi o (l.drop pos)

end Go.Proofs.YtjbolphfelakeaaGreatDoor
