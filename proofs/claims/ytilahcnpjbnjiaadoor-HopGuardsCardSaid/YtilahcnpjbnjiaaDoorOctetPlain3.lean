import Derived.Test.YtilahcnpjbnjiaaDoorOctetPlain2
set_option linter.unusedVariables false
set_option linter.unusedSimpArgs false
namespace Go.OctetPlain

/-- so many bytes at a place are there -/
def there (n : Nat) (k size : Int) : Prop := 0 ≤ k ∧ 0 ≤ size ∧ k ≤ n ∧ size ≤ (n : Int) - k
instance (n : Nat) (k size : Int) : Decidable (there n k size) := by unfold there; infer_instance
/-- Cut -/
def cutL (l : List UInt8) (k size : Int) : List UInt8 := if there l.length k size then (l.drop k.toNat).take size.toNat else []
theorem cutL_of {l : List UInt8} {k size : Int} (h : there l.length k size) : cutL l k size = (l.drop k.toNat).take size.toNat := by unfold cutL; rw [if_pos h]
theorem cutL_length {l : List UInt8} {k size : Int} (h : there l.length k size) : (cutL l k size).length = size.toNat := by
  have h' := h
  unfold there at h'
  unfold cutL
  rw [if_pos h, List.length_take, List.length_drop]
  omega
theorem cutL_le (l : List UInt8) (k size : Int) : (cutL l k size).length ≤ l.length := by
  unfold cutL
  split
  · rw [List.length_take, List.length_drop]; omega
  · exact Nat.zero_le _
theorem cutL_get {l : List UInt8} {k size : Int} (h : there l.length k size) {i : Nat} (hi : i < size.toNat) : (cutL l k size)[i]? = l[k.toNat + i]? := by
  unfold cutL
  rw [if_pos h, List.getElem?_take, if_pos hi, List.getElem?_drop]

/-- a number of so many bytes is there -/
def getOk (n : Nat) (k size : Int) : Prop := there n k size ∧ 1 ≤ size ∧ size ≤ 8
instance (n : Nat) (k size : Int) : Decidable (getOk n k size) := by unfold getOk; infer_instance
/-- Get -/
def getN (l : List UInt8) (k size : Int) : Nat := if getOk l.length k size then num 0 (cutL l k size) else 0

theorem num_take {l : List UInt8} {i : Nat} {c : UInt8} (h : l[i]? = some c) : num 0 (l.take (i + 1)) = num 0 (l.take i) * 256 + c.toNat := by
  obtain ⟨hi, e⟩ := List.getElem?_eq_some_iff.1 h
  rw [List.take_succ_eq_append_getElem hi, num_append, e]
  rfl
theorem num_take_lt (l : List UInt8) (i : Nat) : num 0 (l.take i) < 256 ^ i := by
  have h := num_lt (l.take i) 0
  have hp : 256 ^ (l.take i).length ≤ 256 ^ i := Nat.pow_le_pow_right (by omega) (by rw [List.length_take]; omega)
  omega
theorem num_take_7 (l : List UInt8) {i : Nat} (h : i ≤ 7) : num 0 (l.take i) < 72057594037927936 := by
  have h1 := num_take_lt l i
  have h2 : 256 ^ i ≤ 256 ^ 7 := Nat.pow_le_pow_right (by omega) h
  omega
theorem num_lt_8 {l : List UInt8} (h : l.length ≤ 8) : num 0 l < 18446744073709551616 := by
  have h1 := num_lt l 0
  have h2 : 256 ^ l.length ≤ 256 ^ 8 := Nat.pow_le_pow_right (by omega) h
  omega
theorem getN_lt (l : List UInt8) (k size : Int) : getN l k size < 18446744073709551616 := by
  unfold getN
  split
  · rename_i h
    exact num_lt_8 (by rw [cutL_length h.1]; have := h.2; omega)
  · omega

theorem bytes_cons : ∀ (k n : Nat), bytes n (k + 1) = UInt8.ofNat (n / 256 ^ k % 256) :: bytes n k
  | 0, n => by simp [bytes]
  | k + 1, n => by
    show bytes (n / 256) (k + 1) ++ [UInt8.ofNat (n % 256)] = _
    rw [bytes_cons k (n / 256), Nat.div_div_eq_div_mul, Nat.pow_succ, Nat.mul_comm 256]
    rfl
theorem bytes_take : ∀ (k n i : Nat), i < k → (bytes n k).take (i + 1) = (bytes n k).take i ++ [UInt8.ofNat (n / 256 ^ (k - 1 - i) % 256)] := by
  intro k n i h
  have hg := bytes_get k n i h
  obtain ⟨hi, e⟩ := List.getElem?_eq_some_iff.1 hg
  rw [List.take_succ_eq_append_getElem hi, e]

/-- a number fits at a place -/
def putOk (n : Nat) (k size : Int) (x : Nat) : Prop := getOk n k size ∧ x < 256 ^ size.toNat
instance (n : Nat) (k size : Int) (x : Nat) : Decidable (putOk n k size x) := by unfold putOk; infer_instance
/-- Put -/
def putL (l : List UInt8) (k size : Int) (x : Nat) : List UInt8 := if putOk l.length k size x then l.take k.toNat ++ bytes x size.toNat ++ l.drop (k + size).toNat else []
theorem putL_length {l : List UInt8} {k size : Int} {x : Nat} (h : putOk l.length k size x) : (putL l k size x).length = l.length := by
  have h' := h.1.1
  unfold there at h'
  unfold putL
  rw [if_pos h, List.length_append, List.length_append, List.length_take, List.length_drop, bytes_length]
  omega
theorem putL_le (l : List UInt8) (k size : Int) (x : Nat) : (putL l k size x).length ≤ l.length := by
  by_cases h : putOk l.length k size x
  · rw [putL_length h]; exact Nat.le_refl _
  · unfold putL; rw [if_neg h]; exact Nat.zero_le _
/-- what is put is got -/
theorem put_get {l : List UInt8} {k size : Int} {x : Nat} (h : putOk l.length k size x) : getN (putL l k size x) k size = x := by
  have h' := h.1.1
  unfold there at h'
  have hl := putL_length h
  unfold getN
  rw [if_pos (by rw [hl]; exact h.1)]
  unfold cutL
  rw [if_pos (by rw [hl]; exact h.1.1)]
  unfold putL
  rw [if_pos h, List.append_assoc, List.drop_append_of_le_length (by rw [List.length_take]; omega), List.drop_eq_nil_of_le (by rw [List.length_take]; omega), List.nil_append,
    List.take_append_of_le_length (by rw [bytes_length]; exact Nat.le_refl _), List.take_of_length_le (by rw [bytes_length]; exact Nat.le_refl _), num_bytes, Nat.zero_mul, Nat.zero_add, Nat.mod_eq_of_lt h.2]
theorem put_front {l : List UInt8} {k size : Int} {x : Nat} (h : putOk l.length k size x) : (putL l k size x).take k.toNat = l.take k.toNat := by
  have h' := h.1.1
  unfold there at h'
  unfold putL
  rw [if_pos h, List.append_assoc, List.take_append_of_le_length (by rw [List.length_take]; omega), List.take_of_length_le (by rw [List.length_take]; omega)]
theorem put_back {l : List UInt8} {k size : Int} {x : Nat} (h : putOk l.length k size x) : (putL l k size x).drop (k + size).toNat = l.drop (k + size).toNat := by
  have h' := h.1
  unfold getOk there at h'
  unfold putL
  rw [if_pos h, List.drop_append, List.drop_eq_nil_of_le (by rw [List.length_append, List.length_take, bytes_length]; omega), List.nil_append,
    show (k + size).toNat - (l.take k.toNat ++ bytes x size.toNat).length = 0 by rw [List.length_append, List.length_take, bytes_length]; omega, List.drop_zero]
/-- the document's Put -/
theorem put_ref {l : List UInt8} {k size : Int} {x : Nat} (hs : 0 ≤ size) : (num 0 (bytes x size.toNat) = x) ↔ x < 256 ^ size.toNat := by
  rw [num_bytes, Nat.zero_mul, Nat.zero_add]
  constructor
  · intro h
    rw [← h]
    exact Nat.mod_lt _ (Nat.pow_pos (by omega))
  · exact Nat.mod_eq_of_lt
/-- a cut of a cut -/
theorem cut_two (l : List UInt8) (k : Nat) (hk : k ≤ l.length) : cutL l 0 k ++ cutL l k ((l.length : Int) - k) = l := by
  rw [cutL_of (by unfold there; omega), cutL_of (by unfold there; omega), Int.toNat_zero, List.drop_zero, Int.toNat_natCast, show ((l.length : Int) - k).toNat = (l.drop k).length by rw [List.length_drop]; omega, List.take_length, List.take_append_drop]
theorem cut_cut (l : List UInt8) (k : Nat) (hk : k ≤ l.length) (n : Nat) (hn : n ≤ l.length - k) :
    cutL (cutL l k ((l.length : Int) - k)) (((cutL l k ((l.length : Int) - k)).length : Int) - n) n = cutL l ((l.length : Int) - n) n := by
  have hy : cutL l k ((l.length : Int) - k) = l.drop k := by
    rw [cutL_of (by unfold there; omega), Int.toNat_natCast, show ((l.length : Int) - k).toNat = (l.drop k).length by rw [List.length_drop]; omega, List.take_length]
  rw [hy]
  have hd : (l.drop k).length = l.length - k := by rw [List.length_drop]
  rw [cutL_of (by unfold there; omega), cutL_of (by unfold there; omega), List.drop_drop]
  congr 2
  omega
end Go.OctetPlain
