import Derived.Lib.ItoaLen
import Derived.Lib.AtoiAllCases
namespace Go.OctetPlain

/-- The value of a digit of 16; -1: none. -/
def dig (c : UInt8) : Int :=
  if 48 ≤ c.toNat ∧ c.toNat ≤ 57 then (c.toNat : Int) - 48
  else if 97 ≤ c.toNat ∧ c.toNat ≤ 102 then (c.toNat : Int) - 97 + 10
  else if 65 ≤ c.toNat ∧ c.toNat ≤ 70 then (c.toNat : Int) - 65 + 10
  else -1

theorem dig_bounds (c : UInt8) : -1 ≤ dig c ∧ dig c ≤ 15 := by
  unfold dig
  split
  · omega
  · split
    · omega
    · split <;> omega

/-- Unhex from a byte on: the half that stands open (-1: none), what came. -/
def unhexFrom (high : Int) (out : List UInt8) : List UInt8 → Option (List UInt8)
  | [] => if 0 ≤ high then none else some out
  | c :: r =>
    if dig c < 0 then none
    else if high < 0 then unhexFrom (dig c) out r
    else unhexFrom (-1) (out ++ [UInt8.ofNat (high.toNat * 16 + (dig c).toNat)]) r

/-- The document's Unhex. -/
def refUnhex (out : List UInt8) : List UInt8 → Option (List UInt8)
  | [] => some out
  | [_] => none
  | a :: b :: r =>
    if dig a < 0 ∨ dig b < 0 then none
    else refUnhex (out ++ [UInt8.ofNat (16 * (dig a).toNat + (dig b).toNat)]) r

theorem unhexFrom_eq : ∀ (l out : List UInt8), unhexFrom (-1) out l = refUnhex out l
  | [], out => by simp [unhexFrom, refUnhex]
  | [a], out => by
    simp only [unhexFrom, refUnhex]
    by_cases ha : dig a < 0
    · rw [if_pos ha]
    · rw [if_neg ha, if_pos (by omega), if_pos (by omega)]
  | a :: b :: r, out => by
    simp only [unhexFrom, refUnhex]
    by_cases ha : dig a < 0
    · rw [if_pos ha, if_pos (Or.inl ha)]
    · rw [if_neg ha, if_pos (by omega)]
      by_cases hb : dig b < 0
      · rw [if_pos hb, if_pos (Or.inr hb)]
      · rw [if_neg hb, if_neg (by omega), if_neg (by omega), unhexFrom_eq r, Nat.mul_comm]

/-- A digit's letter. -/
def letter (n : Nat) : UInt8 := if n < 10 then UInt8.ofNat (48 + n) else UInt8.ofNat (87 + n)

theorem dig_letter (n : Nat) (h : n < 16) : dig (letter n) = n := by
  unfold letter dig
  split
  · have e : (UInt8.ofNat (48 + n)).toNat = 48 + n := by rw [UInt8.toNat_ofNat']; omega
    rw [e, if_pos (by omega)]; omega
  · have e : (UInt8.ofNat (87 + n)).toNat = 87 + n := by rw [UInt8.toNat_ofNat']; omega
    rw [e, if_neg (by omega), if_pos (by omega)]; omega

/-- Hex. -/
def hex : List UInt8 → List UInt8
  | [] => []
  | c :: r => letter (c.toNat / 16) :: letter (c.toNat % 16) :: hex r

theorem unhex_hex : ∀ (l out : List UInt8), refUnhex out (hex l) = some (out ++ l)
  | [], out => by simp [hex, refUnhex]
  | c :: r, out => by
    have hc : c.toNat < 256 := c.toNat_lt
    simp only [hex, refUnhex]
    rw [dig_letter _ (by omega), dig_letter _ (by omega), if_neg (by omega), unhex_hex r]
    have e : UInt8.ofNat (16 * ((c.toNat / 16 : Nat) : Int).toNat + ((c.toNat % 16 : Nat) : Int).toNat) = c := by
      apply UInt8.toNat_inj.1
      rw [UInt8.toNat_ofNat']
      omega
    rw [e]
    simp

/-- The number of some bytes, the highest one first. -/
def num (acc : Nat) : List UInt8 → Nat
  | [] => acc
  | c :: r => num (acc * 256 + c.toNat) r

/-- A number as k bytes, the highest one first. -/
def bytes (n : Nat) : Nat → List UInt8
  | 0 => []
  | k + 1 => bytes (n / 256) k ++ [UInt8.ofNat (n % 256)]

theorem bytes_length : ∀ (k n : Nat), (bytes n k).length = k
  | 0, _ => rfl
  | k + 1, n => by simp [bytes, bytes_length k]

theorem num_append : ∀ (xs ys : List UInt8) (acc : Nat), num acc (xs ++ ys) = num (num acc xs) ys
  | [], _, _ => rfl
  | c :: r, ys, acc => by rw [List.cons_append]; exact num_append r ys _

theorem num_bytes : ∀ (k n acc : Nat), num acc (bytes n k) = acc * 256 ^ k + n % 256 ^ k
  | 0, n, acc => by simp [bytes, num, Nat.mod_one]
  | k + 1, n, acc => by
    have e : (UInt8.ofNat (n % 256)).toNat = n % 256 := by rw [UInt8.toNat_ofNat']; omega
    simp only [bytes]
    rw [num_append, num_bytes k]
    simp only [num, e]
    rw [Nat.pow_succ, Nat.mod_mul_left_div_self_aux n (256 ^ k)]
    rw [Nat.add_mul]
    rw [Nat.mul_assoc, Nat.add_assoc]
where
  Nat.mod_mul_left_div_self_aux (n p : Nat) : n % (p * 256) = n / 256 % p * 256 + n % 256 := by
    rw [Nat.mul_comm p, Nat.mod_mul]
    omega

theorem num_lt : ∀ (l : List UInt8) (acc : Nat), num acc l < (acc + 1) * 256 ^ l.length
  | [], acc => by simp [num]
  | c :: r, acc => by
    have := num_lt r (acc * 256 + c.toNat)
    have hc : c.toNat < 256 := c.toNat_lt
    simp only [num, List.length_cons]
    refine Nat.lt_of_lt_of_le this ?_
    rw [Nat.pow_succ, Nat.mul_comm (256 ^ r.length), ← Nat.mul_assoc]
    exact Nat.mul_le_mul_right _ (by omega)

theorem bytes_get : ∀ (k n i : Nat), i < k → (bytes n k)[i]? = some (UInt8.ofNat (n / 256 ^ (k - 1 - i) % 256))
  | k + 1, n, i, h => by
    simp only [bytes]
    by_cases hi : i = k
    · subst hi
      rw [List.getElem?_append_right (by rw [bytes_length]; exact Nat.le_refl _), bytes_length]
      simp
    · rw [List.getElem?_append_left (by rw [bytes_length]; omega), bytes_get k (n / 256) i (by omega)]
      rw [Nat.div_div_eq_div_mul, show k + 1 - 1 - i = (k - 1 - i) + 1 by omega, Nat.pow_succ, Nat.mul_comm 256]
end Go.OctetPlain

set_option linter.unusedVariables false
set_option linter.unusedSimpArgs false
namespace Go.OctetPlain

/-- so many bytes at a place are there -/
def there (n : Nat) (k size : Int) : Prop := 0 ≤ k ∧ 0 ≤ size ∧ k ≤ n ∧ size ≤ (n : Int) - k
instance (n : Nat) (k size : Int) : Decidable (there n k size) := by unfold there; infer_instance
/-- Cut -/
def cutL (l : List UInt8) (k size : Int) : List UInt8 := if there l.length k size then (l.drop k.toNat).take size.toNat else []
theorem cutL_of {l : List UInt8} {k size : Int} (h : there l.length k size) : cutL l k size = (l.drop k.toNat).take size.toNat := by unfold cutL; rw [if_pos h]
theorem cutL_length {l : List UInt8} {k size : Int} (h : there l.length k size) : (cutL l k size).length = size.toNat := by
  have h' := h
  unfold there at h'
  unfold cutL
  rw [if_pos h, List.length_take, List.length_drop]
  omega
theorem cutL_le (l : List UInt8) (k size : Int) : (cutL l k size).length ≤ l.length := by
  unfold cutL
  split
  · rw [List.length_take, List.length_drop]; omega
  · exact Nat.zero_le _
theorem cutL_get {l : List UInt8} {k size : Int} (h : there l.length k size) {i : Nat} (hi : i < size.toNat) : (cutL l k size)[i]? = l[k.toNat + i]? := by
  unfold cutL
  rw [if_pos h, List.getElem?_take, if_pos hi, List.getElem?_drop]

/-- a number of so many bytes is there -/
def getOk (n : Nat) (k size : Int) : Prop := there n k size ∧ 1 ≤ size ∧ size ≤ 8
instance (n : Nat) (k size : Int) : Decidable (getOk n k size) := by unfold getOk; infer_instance
/-- Get -/
def getN (l : List UInt8) (k size : Int) : Nat := if getOk l.length k size then num 0 (cutL l k size) else 0

theorem num_take {l : List UInt8} {i : Nat} {c : UInt8} (h : l[i]? = some c) : num 0 (l.take (i + 1)) = num 0 (l.take i) * 256 + c.toNat := by
  obtain ⟨hi, e⟩ := List.getElem?_eq_some_iff.1 h
  rw [List.take_succ_eq_append_getElem hi, num_append, e]
  rfl
theorem num_take_lt (l : List UInt8) (i : Nat) : num 0 (l.take i) < 256 ^ i := by
  have h := num_lt (l.take i) 0
  have hp : 256 ^ (l.take i).length ≤ 256 ^ i := Nat.pow_le_pow_right (by omega) (by rw [List.length_take]; omega)
  omega
theorem num_take_7 (l : List UInt8) {i : Nat} (h : i ≤ 7) : num 0 (l.take i) < 72057594037927936 := by
  have h1 := num_take_lt l i
  have h2 : 256 ^ i ≤ 256 ^ 7 := Nat.pow_le_pow_right (by omega) h
  omega
theorem num_lt_8 {l : List UInt8} (h : l.length ≤ 8) : num 0 l < 18446744073709551616 := by
  have h1 := num_lt l 0
  have h2 : 256 ^ l.length ≤ 256 ^ 8 := Nat.pow_le_pow_right (by omega) h
  omega
theorem getN_lt (l : List UInt8) (k size : Int) : getN l k size < 18446744073709551616 := by
  unfold getN
  split
  · rename_i h
    exact num_lt_8 (by rw [cutL_length h.1]; have := h.2; omega)
  · omega

theorem bytes_cons : ∀ (k n : Nat), bytes n (k + 1) = UInt8.ofNat (n / 256 ^ k % 256) :: bytes n k
  | 0, n => by simp [bytes]
  | k + 1, n => by
    show bytes (n / 256) (k + 1) ++ [UInt8.ofNat (n % 256)] = _
    rw [bytes_cons k (n / 256), Nat.div_div_eq_div_mul, Nat.pow_succ, Nat.mul_comm 256]
    rfl
theorem bytes_take : ∀ (k n i : Nat), i < k → (bytes n k).take (i + 1) = (bytes n k).take i ++ [UInt8.ofNat (n / 256 ^ (k - 1 - i) % 256)] := by
  intro k n i h
  have hg := bytes_get k n i h
  obtain ⟨hi, e⟩ := List.getElem?_eq_some_iff.1 hg
  rw [List.take_succ_eq_append_getElem hi, e]

/-- a number fits at a place -/
def putOk (n : Nat) (k size : Int) (x : Nat) : Prop := getOk n k size ∧ x < 256 ^ size.toNat
instance (n : Nat) (k size : Int) (x : Nat) : Decidable (putOk n k size x) := by unfold putOk; infer_instance
/-- Put -/
def putL (l : List UInt8) (k size : Int) (x : Nat) : List UInt8 := if putOk l.length k size x then l.take k.toNat ++ bytes x size.toNat ++ l.drop (k + size).toNat else []
theorem putL_length {l : List UInt8} {k size : Int} {x : Nat} (h : putOk l.length k size x) : (putL l k size x).length = l.length := by
  have h' := h.1.1
  unfold there at h'
  unfold putL
  rw [if_pos h, List.length_append, List.length_append, List.length_take, List.length_drop, bytes_length]
  omega
theorem putL_le (l : List UInt8) (k size : Int) (x : Nat) : (putL l k size x).length ≤ l.length := by
  by_cases h : putOk l.length k size x
  · rw [putL_length h]; exact Nat.le_refl _
  · unfold putL; rw [if_neg h]; exact Nat.zero_le _
/-- what is put is got -/
theorem put_get {l : List UInt8} {k size : Int} {x : Nat} (h : putOk l.length k size x) : getN (putL l k size x) k size = x := by
  have h' := h.1.1
  unfold there at h'
  have hl := putL_length h
  unfold getN
  rw [if_pos (by rw [hl]; exact h.1)]
  unfold cutL
  rw [if_pos (by rw [hl]; exact h.1.1)]
  unfold putL
  rw [if_pos h, List.append_assoc, List.drop_append_of_le_length (by rw [List.length_take]; omega), List.drop_eq_nil_of_le (by rw [List.length_take]; omega), List.nil_append,
    List.take_append_of_le_length (by rw [bytes_length]; exact Nat.le_refl _), List.take_of_length_le (by rw [bytes_length]; exact Nat.le_refl _), num_bytes, Nat.zero_mul, Nat.zero_add, Nat.mod_eq_of_lt h.2]
theorem put_front {l : List UInt8} {k size : Int} {x : Nat} (h : putOk l.length k size x) : (putL l k size x).take k.toNat = l.take k.toNat := by
  have h' := h.1.1
  unfold there at h'
  unfold putL
  rw [if_pos h, List.append_assoc, List.take_append_of_le_length (by rw [List.length_take]; omega), List.take_of_length_le (by rw [List.length_take]; omega)]
theorem put_back {l : List UInt8} {k size : Int} {x : Nat} (h : putOk l.length k size x) : (putL l k size x).drop (k + size).toNat = l.drop (k + size).toNat := by
  have h' := h.1
  unfold getOk there at h'
  unfold putL
  rw [if_pos h, List.drop_append, List.drop_eq_nil_of_le (by rw [List.length_append, List.length_take, bytes_length]; omega), List.nil_append,
    show (k + size).toNat - (l.take k.toNat ++ bytes x size.toNat).length = 0 by rw [List.length_append, List.length_take, bytes_length]; omega, List.drop_zero]
/-- the document's Put -/
theorem put_ref {l : List UInt8} {k size : Int} {x : Nat} (hs : 0 ≤ size) : (num 0 (bytes x size.toNat) = x) ↔ x < 256 ^ size.toNat := by
  rw [num_bytes, Nat.zero_mul, Nat.zero_add]
  constructor
  · intro h
    rw [← h]
    exact Nat.mod_lt _ (Nat.pow_pos (by omega))
  · exact Nat.mod_eq_of_lt
/-- a cut of a cut -/
theorem cut_two (l : List UInt8) (k : Nat) (hk : k ≤ l.length) : cutL l 0 k ++ cutL l k ((l.length : Int) - k) = l := by
  rw [cutL_of (by unfold there; omega), cutL_of (by unfold there; omega), Int.toNat_zero, List.drop_zero, Int.toNat_natCast, show ((l.length : Int) - k).toNat = (l.drop k).length by rw [List.length_drop]; omega, List.take_length, List.take_append_drop]
theorem cut_cut (l : List UInt8) (k : Nat) (hk : k ≤ l.length) (n : Nat) (hn : n ≤ l.length - k) :
    cutL (cutL l k ((l.length : Int) - k)) (((cutL l k ((l.length : Int) - k)).length : Int) - n) n = cutL l ((l.length : Int) - n) n := by
  have hy : cutL l k ((l.length : Int) - k) = l.drop k := by
    rw [cutL_of (by unfold there; omega), Int.toNat_natCast, show ((l.length : Int) - k).toNat = (l.drop k).length by rw [List.length_drop]; omega, List.take_length]
  rw [hy]
  have hd : (l.drop k).length = l.length - k := by rw [List.length_drop]
  rw [cutL_of (by unfold there; omega), cutL_of (by unfold there; omega), List.drop_drop]
  congr 2
  omega
end Go.OctetPlain

namespace Go.OctetPlain
open Go.Lib

theorem decDigits_ne (k : Nat) : decDigits k ≠ [] := by
  intro h
  have := decDigits_length k
  rw [h] at this
  have := nDigits_pos k
  simp at *
  omega

/-- Each byte of a numeral is a digit. -/
theorem decDigits_dig (k : Nat) : ∀ c ∈ decDigits k, 48 ≤ c.toNat ∧ c.toNat ≤ 57 := by
  induction k using Nat.strongRecOn with
  | _ k ih =>
    intro c hc
    by_cases h : k < 10
    · rw [decDigits, dif_pos h] at hc
      rw [List.mem_singleton.1 hc, UInt8.toNat_ofNat']
      omega
    · rw [decDigits, dif_neg h] at hc
      rcases List.mem_append.1 hc with hc | hc
      · exact ih (k / 10) (by omega) c hc
      · rw [List.mem_singleton.1 hc, UInt8.toNat_ofNat']
        omega

theorem parseUint10_append : ∀ (xs ys : List UInt8) (acc : Nat),
    parseUint10 acc (xs ++ ys) = match parseUint10 acc xs with | .ok a => parseUint10 a ys | NumEnd.syntax => NumEnd.syntax | .range => .range
  | [], ys, acc => rfl
  | c :: r, ys, acc => by
    rw [List.cons_append]
    simp only [parseUint10]
    split
    · split
      · rfl
      · split
        · rfl
        · exact parseUint10_append r ys _
    · rfl

theorem parseUint10_dec (k : Nat) (hk : k < 18446744073709551616) : parseUint10 0 (decDigits k) = .ok k := by
  induction k using Nat.strongRecOn with
  | _ k ih =>
    by_cases h : k < 10
    · rw [decDigits, dif_pos h]
      have e : (UInt8.ofNat (48 + k)).toNat = 48 + k := by rw [UInt8.toNat_ofNat']; omega
      simp only [parseUint10, e]
      rw [if_pos (by omega), if_neg (by omega), if_neg (by omega)]
      congr 1; omega
    · rw [decDigits, dif_neg h, parseUint10_append, ih (k / 10) (by omega) (by omega)]
      have e : (UInt8.ofNat (48 + k % 10)).toNat = 48 + k % 10 := by rw [UInt8.toNat_ofNat']; omega
      simp only [parseUint10, e]
      rw [if_pos (by omega), if_neg (by omega), if_neg (by omega)]
      congr 1; omega

theorem atoiAll_dec (k : Nat) (hk : k < 9223372036854775808) : atoiAll (decDigits k) = .ok (k : Int) := by
  have hne := decDigits_ne k
  have hd := decDigits_dig k
  have hp := parseUint10_dec k (by omega)
  cases hl : decDigits k with
  | nil => exact absurd hl hne
  | cons c r =>
    rw [hl] at hd hp
    have := hd c (List.mem_cons_self ..)
    rw [atoiAll_plain c r (by omega) (by omega)]
    unfold parseMag
    rw [if_neg (by simp), hp]
    simp only [signless]
    rw [if_neg (by omega)]

/-- What octet.Number answers. -/
def number (l : List UInt8) (most : Int) : Option Int :=
  match atoiAll l with
  | .ok v => if 0 ≤ v ∧ v ≤ most ∧ itoa v = l then some v else none
  | _ => none

/-- By definition: the number of which l is the numeral. -/
theorem number_some {l : List UInt8} {most v : Int} : number l most = some v ↔ 0 ≤ v ∧ v ≤ 9223372036854775807 ∧ v ≤ most ∧ l = decDigits v.toNat := by
  constructor
  · intro h
    unfold number at h
    match ha : atoiAll l with
    | NumEnd.syntax => rw [ha] at h; cases h
    | .range => rw [ha] at h; cases h
    | .ok u =>
      rw [ha] at h
      simp only at h
      split at h
      · rename_i hc
        injection h with h
        subst h
        have := atoiAll_bounds ha
        refine ⟨hc.1, this.2, hc.2.1, ?_⟩
        rw [← hc.2.2]
        unfold itoa
        rw [if_neg (by omega)]
      · cases h
  · rintro ⟨h0, h1, h2, rfl⟩
    unfold number
    rw [atoiAll_dec _ (by omega)]
    have e : ((v.toNat : Nat) : Int) = v := by omega
    simp only [e]
    rw [if_pos ⟨h0, h2, by unfold itoa; rw [if_neg (by omega)]⟩]

/-- The document's loop: the number behind each digit, from the first on. -/
def refNum (acc : Nat) : List UInt8 → Option Nat
  | [] => some acc
  | c :: r => if c.toNat < 48 ∨ 57 < c.toNat ∨ (9223372036854775807 - (c.toNat - 48)) / 10 < acc then none else refNum (10 * acc + (c.toNat - 48)) r

theorem refNum_append : ∀ (xs ys : List UInt8) (acc : Nat), refNum acc (xs ++ ys) = (refNum acc xs).bind fun a => refNum a ys
  | [], ys, acc => rfl
  | c :: r, ys, acc => by
    rw [List.cons_append]
    simp only [refNum]
    split
    · rfl
    · exact refNum_append r ys _

theorem refNum_dec (k : Nat) (hk : k < 9223372036854775808) : refNum 0 (decDigits k) = some k := by
  induction k using Nat.strongRecOn with
  | _ k ih =>
    by_cases h : k < 10
    · rw [decDigits, dif_pos h]
      have e : (UInt8.ofNat (48 + k)).toNat = 48 + k := by rw [UInt8.toNat_ofNat']; omega
      simp only [refNum, e]
      rw [if_neg (by omega)]
      congr 1; omega
    · rw [decDigits, dif_neg h, refNum_append, ih (k / 10) (by omega) (by omega)]
      have e : (UInt8.ofNat (48 + k % 10)).toNat = 48 + k % 10 := by rw [UInt8.toNat_ofNat']; omega
      simp only [Option.bind_some, refNum, e]
      rw [if_neg (by omega)]
      congr 1; omega

theorem refNum_lt : ∀ (l : List UInt8) (acc k : Nat), acc ≤ 9223372036854775807 → refNum acc l = some k → k ≤ 9223372036854775807
  | [], acc, k, ha, h => by simp only [refNum] at h; injection h with h; omega
  | c :: r, acc, k, ha, h => by
    simp only [refNum] at h
    split at h
    · cases h
    · rename_i hc
      exact refNum_lt r _ k (by omega) h

theorem nDigits_le19 (u : Nat) (h : u < 9223372036854775808) : nDigits u ≤ 19 := by
  by_cases hs : nDigits u ≤ 19
  · exact hs
  · exfalso
    have key : ∀ (n u : Nat), n + 1 ≤ nDigits u → 1 ≤ n → 10 ^ n ≤ u := by
      intro n
      induction n with
      | zero => intro u _ h; omega
      | succ n ih =>
        intro u hu _
        by_cases hb : u < 10
        · rw [nDigits_small hb] at hu; omega
        · rw [nDigits_big hb] at hu
          rcases Nat.eq_zero_or_pos n with rfl | hn
          · simp; omega
          · have := ih (u / 10) (by omega) hn
            rw [Nat.pow_succ]
            omega
    have := key 19 u (by omega) (by omega)
    omega

/-- The document's Number. -/
def refNumber (l : List UInt8) (most : Int) : Option Int :=
  if l = [] ∨ 19 < l.length then none else
  match refNum 0 l with
  | none => none
  | some k => if decDigits k = l ∧ (k : Int) ≤ most then some (k : Int) else none

theorem refNumber_eq (l : List UInt8) (most : Int) : refNumber l most = number l most := by
  have hiff : ∀ v, refNumber l most = some v ↔ number l most = some v := by
    intro v
    rw [number_some]
    constructor
    · intro h
      unfold refNumber at h
      split at h
      · cases h
      · cases hr : refNum 0 l with
        | none => rw [hr] at h; cases h
        | some k =>
          rw [hr] at h
          simp only at h
          split at h
          · rename_i hc
            injection h with h
            subst h
            have := refNum_lt l 0 k (by omega) hr
            exact ⟨by omega, by omega, hc.2, by simpa using hc.1.symm⟩
          · cases h
    · rintro ⟨h0, h1, h2, rfl⟩
      unfold refNumber
      have hlen := decDigits_length v.toNat
      have := nDigits_le19 v.toNat (by omega)
      rw [if_neg (by intro h; rcases h with h | h; · exact decDigits_ne _ h
                     · omega), refNum_dec _ (by omega)]
      have e : ((v.toNat : Nat) : Int) = v := by omega
      simp only [e]
      rw [if_pos ⟨trivial, h2⟩]
  cases hn : number l most with
  | none =>
    cases hr : refNumber l most with
    | none => rfl
    | some v => exact absurd ((hiff v).1 hr) (by rw [hn]; intro h; cases h)
  | some v => exact (hiff v).2 hn
end Go.OctetPlain
