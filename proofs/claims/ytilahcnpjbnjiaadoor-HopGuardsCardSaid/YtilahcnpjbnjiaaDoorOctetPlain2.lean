namespace Go.OctetPlain

/-- The value of a digit of 16; -1: none. -/
def dig (c : UInt8) : Int :=
  if 48 ≤ c.toNat ∧ c.toNat ≤ 57 then (c.toNat : Int) - 48
  else if 97 ≤ c.toNat ∧ c.toNat ≤ 102 then (c.toNat : Int) - 97 + 10
  else if 65 ≤ c.toNat ∧ c.toNat ≤ 70 then (c.toNat : Int) - 65 + 10
  else -1

theorem dig_bounds (c : UInt8) : -1 ≤ dig c ∧ dig c ≤ 15 := by
  unfold dig
  split
  · omega
  · split
    · omega
    · split <;> omega

/-- Unhex from a byte on: the half that stands open (-1: none), what came. -/
def unhexFrom (high : Int) (out : List UInt8) : List UInt8 → Option (List UInt8)
  | [] => if 0 ≤ high then none else some out
  | c :: r =>
    if dig c < 0 then none
    else if high < 0 then unhexFrom (dig c) out r
    else unhexFrom (-1) (out ++ [UInt8.ofNat (high.toNat * 16 + (dig c).toNat)]) r

/-- The document's Unhex. -/
def refUnhex (out : List UInt8) : List UInt8 → Option (List UInt8)
  | [] => some out
  | [_] => none
  | a :: b :: r =>
    if dig a < 0 ∨ dig b < 0 then none
    else refUnhex (out ++ [UInt8.ofNat (16 * (dig a).toNat + (dig b).toNat)]) r

theorem unhexFrom_eq : ∀ (l out : List UInt8), unhexFrom (-1) out l = refUnhex out l
  | [], out => by simp [unhexFrom, refUnhex]
  | [a], out => by
    simp only [unhexFrom, refUnhex]
    by_cases ha : dig a < 0
    · rw [if_pos ha]
    · rw [if_neg ha, if_pos (by omega), if_pos (by omega)]
  | a :: b :: r, out => by
    simp only [unhexFrom, refUnhex]
    by_cases ha : dig a < 0
    · rw [if_pos ha, if_pos (Or.inl ha)]
    · rw [if_neg ha, if_pos (by omega)]
      by_cases hb : dig b < 0
      · rw [if_pos hb, if_pos (Or.inr hb)]
      · rw [if_neg hb, if_neg (by omega), if_neg (by omega), unhexFrom_eq r, Nat.mul_comm]

/-- A digit's letter. -/
def letter (n : Nat) : UInt8 := if n < 10 then UInt8.ofNat (48 + n) else UInt8.ofNat (87 + n)

theorem dig_letter (n : Nat) (h : n < 16) : dig (letter n) = n := by
  unfold letter dig
  split
  · have e : (UInt8.ofNat (48 + n)).toNat = 48 + n := by rw [UInt8.toNat_ofNat']; omega
    rw [e, if_pos (by omega)]; omega
  · have e : (UInt8.ofNat (87 + n)).toNat = 87 + n := by rw [UInt8.toNat_ofNat']; omega
    rw [e, if_neg (by omega), if_pos (by omega)]; omega

/-- Hex. -/
def hex : List UInt8 → List UInt8
  | [] => []
  | c :: r => letter (c.toNat / 16) :: letter (c.toNat % 16) :: hex r

theorem unhex_hex : ∀ (l out : List UInt8), refUnhex out (hex l) = some (out ++ l)
  | [], out => by simp [hex, refUnhex]
  | c :: r, out => by
    have hc : c.toNat < 256 := c.toNat_lt
    simp only [hex, refUnhex]
    rw [dig_letter _ (by omega), dig_letter _ (by omega), if_neg (by omega), unhex_hex r]
    have e : UInt8.ofNat (16 * ((c.toNat / 16 : Nat) : Int).toNat + ((c.toNat % 16 : Nat) : Int).toNat) = c := by
      apply UInt8.toNat_inj.1
      rw [UInt8.toNat_ofNat']
      omega
    rw [e]
    simp

/-- The number of some bytes, the highest one first. -/
def num (acc : Nat) : List UInt8 → Nat
  | [] => acc
  | c :: r => num (acc * 256 + c.toNat) r

/-- A number as k bytes, the highest one first. -/
def bytes (n : Nat) : Nat → List UInt8
  | 0 => []
  | k + 1 => bytes (n / 256) k ++ [UInt8.ofNat (n % 256)]

theorem bytes_length : ∀ (k n : Nat), (bytes n k).length = k
  | 0, _ => rfl
  | k + 1, n => by simp [bytes, bytes_length k]

theorem num_append : ∀ (xs ys : List UInt8) (acc : Nat), num acc (xs ++ ys) = num (num acc xs) ys
  | [], _, _ => rfl
  | c :: r, ys, acc => by rw [List.cons_append]; exact num_append r ys _

theorem num_bytes : ∀ (k n acc : Nat), num acc (bytes n k) = acc * 256 ^ k + n % 256 ^ k
  | 0, n, acc => by simp [bytes, num, Nat.mod_one]
  | k + 1, n, acc => by
    have e : (UInt8.ofNat (n % 256)).toNat = n % 256 := by rw [UInt8.toNat_ofNat']; omega
    simp only [bytes]
    rw [num_append, num_bytes k]
    simp only [num, e]
    rw [Nat.pow_succ, Nat.mod_mul_left_div_self_aux n (256 ^ k)]
    rw [Nat.add_mul]
    rw [Nat.mul_assoc, Nat.add_assoc]
where
  Nat.mod_mul_left_div_self_aux (n p : Nat) : n % (p * 256) = n / 256 % p * 256 + n % 256 := by
    rw [Nat.mul_comm p, Nat.mod_mul]
    omega

theorem num_lt : ∀ (l : List UInt8) (acc : Nat), num acc l < (acc + 1) * 256 ^ l.length
  | [], acc => by simp [num]
  | c :: r, acc => by
    have := num_lt r (acc * 256 + c.toNat)
    have hc : c.toNat < 256 := c.toNat_lt
    simp only [num, List.length_cons]
    refine Nat.lt_of_lt_of_le this ?_
    rw [Nat.pow_succ, Nat.mul_comm (256 ^ r.length), ← Nat.mul_assoc]
    exact Nat.mul_le_mul_right _ (by omega)

theorem bytes_get : ∀ (k n i : Nat), i < k → (bytes n k)[i]? = some (UInt8.ofNat (n / 256 ^ (k - 1 - i) % 256))
  | k + 1, n, i, h => by
    simp only [bytes]
    by_cases hi : i = k
    · subst hi
      rw [List.getElem?_append_right (by rw [bytes_length]; exact Nat.le_refl _), bytes_length]
      simp
    · rw [List.getElem?_append_left (by rw [bytes_length]; omega), bytes_get k (n / 256) i (by omega)]
      rw [Nat.div_div_eq_div_mul, show k + 1 - 1 - i = (k - 1 - i) + 1 by omega, Nat.pow_succ, Nat.mul_comm 256]
end Go.OctetPlain
