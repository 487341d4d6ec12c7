/- octet.Put. -/
import Derived.Test.YtilahcnpjbnjiaaDoorOctetFns2
namespace Go.Proofs.YtilahcnpjbnjiaaDoor
set_option linter.unusedVariables false
set_option linter.unusedSimpArgs false
open Go.RowKit Go.Shelf Go.Proofs Go.OctetPlain

theorem flat_map (l : List UInt8) : flat encB l = l.map fun c => .int .u8 (c.toNat : Int) := by
  induction l with
  | nil => rfl
  | cons c r ih => simp only [flat, List.flatMap_cons, encB, List.map_cons] at ih ⊢; rw [ih]; rfl
theorem flat_set (l : List UInt8) (i : Nat) (c : UInt8) : (flat encB l).set i (.int .u8 (c.toNat : Int)) = flat encB (l.set i c) := by
  rw [flat_map, flat_map, List.map_set]

/-- Put, behind j bytes -/
def putPart (l : List UInt8) (k s x j : Nat) : List UInt8 := l.take k ++ (OctetPlain.bytes x s).take j ++ l.drop (k + j)
theorem putPart_length {l : List UInt8} {k s x j : Nat} (hk : k + s ≤ l.length) (hj : j ≤ s) : (putPart l k s x j).length = l.length := by
  unfold putPart
  rw [List.length_append, List.length_append, List.length_take, List.length_take, List.length_drop, bytes_length]
  omega
theorem putPart_zero (l : List UInt8) (k s x : Nat) : putPart l k s x 0 = l := by unfold putPart; simp
theorem putPart_next {l : List UInt8} {k s x j : Nat} (hk : k + s ≤ l.length) (hj : j < s) : (putPart l k s x j).set (k + j) (UInt8.ofNat (x / 256 ^ (s - 1 - j) % 256)) = putPart l k s x (j + 1) := by
  unfold putPart
  have h1 : (l.take k ++ (OctetPlain.bytes x s).take j).length = k + j := by rw [List.length_append, List.length_take, List.length_take, bytes_length]; omega
  rw [List.set_append_right _ _ (by rw [h1]; exact Nat.le_refl _), h1, Nat.sub_self, List.drop_eq_getElem_cons (show k + j < l.length by omega), List.set_cons_zero, bytes_take s x j hj]
  simp [Nat.add_assoc]
theorem putPart_end {l : List UInt8} {k size : Int} {x : Nat} (h : putOk l.length k size x) : putPart l k.toNat size.toNat x size.toNat = putL l k size x := by
  have h' := h.1.1
  unfold there at h'
  unfold putL putPart
  rw [if_pos h, List.take_of_length_le (l := OctetPlain.bytes x size.toNat) (by rw [bytes_length]; exact Nat.le_refl _)]
  congr 2
  omega

theorem pow_8 (n : Nat) : (2 : Int) ^ (8 * n) = ((256 ^ n : Nat) : Int) := by
  rw [Int.pow_mul]
  simp
theorem shr_out (x : Nat) (size : Int) (h1 : 1 ≤ size) (h2 : size < 8) : ((x : Int) / 2 ^ (8 * size).toNat = 0) ↔ x < 256 ^ size.toNat := by
  rw [show (8 * size).toNat = 8 * size.toNat by omega, pow_8]
  have hp : 0 < 256 ^ size.toNat := Nat.pow_pos (by omega)
  constructor
  · intro h
    have : x / 256 ^ size.toNat = 0 := by exact_mod_cast h
    rcases Nat.div_eq_zero_iff.1 this with h | h
    · omega
    · exact h
  · intro h
    have : x / 256 ^ size.toNat = 0 := Nat.div_eq_of_lt h
    exact_mod_cast this
theorem shr_byte (x : Nat) (size : Int) (j : Nat) (h1 : 1 ≤ size) (h2 : size ≤ 8) (hj : (j : Int) < size) :
    ((x : Int) / 2 ^ (8 * (size - 1 - j)).toNat) % 256 = ((UInt8.ofNat (x / 256 ^ (size.toNat - 1 - j) % 256)).toNat : Int) := by
  rw [show (8 * (size - 1 - j)).toNat = 8 * (size.toNat - 1 - j) by omega, pow_8, UInt8.toNat_ofNat']
  rw [show (x / 256 ^ (size.toNat - 1 - j) % 256) % 2 ^ 8 = x / 256 ^ (size.toNat - 1 - j) % 256 by omega, ← Int.natCast_ediv]
  exact (Int.natCast_emod _ 256).symm
theorem owns_some {w : World} {v : Value} {l : List UInt8} {B : Nat} {e : TypeId} (h : w.ownsRow B e 1 v l.length (flat encB l)) (h0 : 0 < l.length) :
    ∃ g cap, v = .slice (some ⟨g, 0, none⟩) l.length cap ∧ l.length ≤ cap ∧ B ≤ g ∧ g < w.heap.size := by
  rcases h.2 with ⟨rfl, h1⟩ | ⟨g, cap, cur, rfl, hb, hg, hn, _⟩
  · omega
  · exact ⟨g, cap, rfl, hn, hb, (Array.getElem?_eq_some_iff.1 hg).1⟩

end Go.Proofs.YtilahcnpjbnjiaaDoor
