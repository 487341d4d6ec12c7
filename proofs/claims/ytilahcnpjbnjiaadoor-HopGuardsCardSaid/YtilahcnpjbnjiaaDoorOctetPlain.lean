import Derived.Lib.ItoaLen
import Derived.Lib.AtoiAllCases
namespace Go.OctetPlain
open Go.Lib

theorem decDigits_ne (k : Nat) : decDigits k ≠ [] := by
  intro h
  have := decDigits_length k
  rw [h] at this
  have := nDigits_pos k
  simp at *
  omega

/-- Each byte of a numeral is a digit. -/
theorem decDigits_dig (k : Nat) : ∀ c ∈ decDigits k, 48 ≤ c.toNat ∧ c.toNat ≤ 57 := by
  induction k using Nat.strongRecOn with
  | _ k ih =>
    intro c hc
    by_cases h : k < 10
    · rw [decDigits, dif_pos h] at hc
      rw [List.mem_singleton.1 hc, UInt8.toNat_ofNat']
      omega
    · rw [decDigits, dif_neg h] at hc
      rcases List.mem_append.1 hc with hc | hc
      · exact ih (k / 10) (by omega) c hc
      · rw [List.mem_singleton.1 hc, UInt8.toNat_ofNat']
        omega

theorem parseUint10_append : ∀ (xs ys : List UInt8) (acc : Nat),
    parseUint10 acc (xs ++ ys) = match parseUint10 acc xs with | .ok a => parseUint10 a ys | NumEnd.syntax => NumEnd.syntax | .range => .range
  | [], ys, acc => rfl
  | c :: r, ys, acc => by
    rw [List.cons_append]
    simp only [parseUint10]
    split
    · split
      · rfl
      · split
        · rfl
        · exact parseUint10_append r ys _
    · rfl

theorem parseUint10_dec (k : Nat) (hk : k < 18446744073709551616) : parseUint10 0 (decDigits k) = .ok k := by
  induction k using Nat.strongRecOn with
  | _ k ih =>
    by_cases h : k < 10
    · rw [decDigits, dif_pos h]
      have e : (UInt8.ofNat (48 + k)).toNat = 48 + k := by rw [UInt8.toNat_ofNat']; omega
      simp only [parseUint10, e]
      rw [if_pos (by omega), if_neg (by omega), if_neg (by omega)]
      congr 1; omega
    · rw [decDigits, dif_neg h, parseUint10_append, ih (k / 10) (by omega) (by omega)]
      have e : (UInt8.ofNat (48 + k % 10)).toNat = 48 + k % 10 := by rw [UInt8.toNat_ofNat']; omega
      simp only [parseUint10, e]
      rw [if_pos (by omega), if_neg (by omega), if_neg (by omega)]
      congr 1; omega

theorem atoiAll_dec (k : Nat) (hk : k < 9223372036854775808) : atoiAll (decDigits k) = .ok (k : Int) := by
  have hne := decDigits_ne k
  have hd := decDigits_dig k
  have hp := parseUint10_dec k (by omega)
  cases hl : decDigits k with
  | nil => exact absurd hl hne
  | cons c r =>
    rw [hl] at hd hp
    have := hd c (List.mem_cons_self ..)
    rw [atoiAll_plain c r (by omega) (by omega)]
    unfold parseMag
    rw [if_neg (by simp), hp]
    simp only [signless]
    rw [if_neg (by omega)]

/-- What octet.Number answers. -/
def number (l : List UInt8) (most : Int) : Option Int :=
  match atoiAll l with
  | .ok v => if 0 ≤ v ∧ v ≤ most ∧ itoa v = l then some v else none
  | _ => none

/-- By definition: the number of which l is the numeral. -/
theorem number_some {l : List UInt8} {most v : Int} : number l most = some v ↔ 0 ≤ v ∧ v ≤ 9223372036854775807 ∧ v ≤ most ∧ l = decDigits v.toNat := by
  constructor
  · intro h
    unfold number at h
    match ha : atoiAll l with
    | NumEnd.syntax => rw [ha] at h; cases h
    | .range => rw [ha] at h; cases h
    | .ok u =>
      rw [ha] at h
      simp only at h
      split at h
      · rename_i hc
        injection h with h
        subst h
        have := atoiAll_bounds ha
        refine ⟨hc.1, this.2, hc.2.1, ?_⟩
        rw [← hc.2.2]
        unfold itoa
        rw [if_neg (by omega)]
      · cases h
  · rintro ⟨h0, h1, h2, rfl⟩
    unfold number
    rw [atoiAll_dec _ (by omega)]
    have e : ((v.toNat : Nat) : Int) = v := by omega
    simp only [e]
    rw [if_pos ⟨h0, h2, by unfold itoa; rw [if_neg (by omega)]⟩]

/-- The document's loop: the number behind each digit, from the first on. -/
def refNum (acc : Nat) : List UInt8 → Option Nat
  | [] => some acc
  | c :: r => if c.toNat < 48 ∨ 57 < c.toNat ∨ (9223372036854775807 - (c.toNat - 48)) / 10 < acc then none else refNum (10 * acc + (c.toNat - 48)) r

theorem refNum_append : ∀ (xs ys : List UInt8) (acc : Nat), refNum acc (xs ++ ys) = (refNum acc xs).bind fun a => refNum a ys
  | [], ys, acc => rfl
  | c :: r, ys, acc => by
    rw [List.cons_append]
    simp only [refNum]
    split
    · rfl
    · exact refNum_append r ys _

theorem refNum_dec (k : Nat) (hk : k < 9223372036854775808) : refNum 0 (decDigits k) = some k := by
  induction k using Nat.strongRecOn with
  | _ k ih =>
    by_cases h : k < 10
    · rw [decDigits, dif_pos h]
      have e : (UInt8.ofNat (48 + k)).toNat = 48 + k := by rw [UInt8.toNat_ofNat']; omega
      simp only [refNum, e]
      rw [if_neg (by omega)]
      congr 1; omega
    · rw [decDigits, dif_neg h, refNum_append, ih (k / 10) (by omega) (by omega)]
      have e : (UInt8.ofNat (48 + k % 10)).toNat = 48 + k % 10 := by rw [UInt8.toNat_ofNat']; omega
      simp only [Option.bind_some, refNum, e]
      rw [if_neg (by omega)]
      congr 1; omega

theorem refNum_lt : ∀ (l : List UInt8) (acc k : Nat), acc ≤ 9223372036854775807 → refNum acc l = some k → k ≤ 9223372036854775807
  | [], acc, k, ha, h => by simp only [refNum] at h; injection h with h; omega
  | c :: r, acc, k, ha, h => by
    simp only [refNum] at h
    split at h
    · cases h
    · rename_i hc
      exact refNum_lt r _ k (by omega) h

theorem nDigits_le19 (u : Nat) (h : u < 9223372036854775808) : nDigits u ≤ 19 := by
  by_cases hs : nDigits u ≤ 19
  · exact hs
  · exfalso
    have key : ∀ (n u : Nat), n + 1 ≤ nDigits u → 1 ≤ n → 10 ^ n ≤ u := by
      intro n
      induction n with
      | zero => intro u _ h; omega
      | succ n ih =>
        intro u hu _
        by_cases hb : u < 10
        · rw [nDigits_small hb] at hu; omega
        · rw [nDigits_big hb] at hu
          rcases Nat.eq_zero_or_pos n with rfl | hn
          · simp; omega
          · have := ih (u / 10) (by omega) hn
            rw [Nat.pow_succ]
            omega
    have := key 19 u (by omega) (by omega)
    omega

/-- The document's Number. -/
def refNumber (l : List UInt8) (most : Int) : Option Int :=
  if l = [] ∨ 19 < l.length then none else
  match refNum 0 l with
  | none => none
  | some k => if decDigits k = l ∧ (k : Int) ≤ most then some (k : Int) else none

theorem refNumber_eq (l : List UInt8) (most : Int) : refNumber l most = number l most := by
  have hiff : ∀ v, refNumber l most = some v ↔ number l most = some v := by
    intro v
    rw [number_some]
    constructor
    · intro h
      unfold refNumber at h
      split at h
      · cases h
      · cases hr : refNum 0 l with
        | none => rw [hr] at h; cases h
        | some k =>
          rw [hr] at h
          simp only at h
          split at h
          · rename_i hc
            injection h with h
            subst h
            have := refNum_lt l 0 k (by omega) hr
            exact ⟨by omega, by omega, hc.2, by simpa using hc.1.symm⟩
          · cases h
    · rintro ⟨h0, h1, h2, rfl⟩
      unfold refNumber
      have hlen := decDigits_length v.toNat
      have := nDigits_le19 v.toNat (by omega)
      rw [if_neg (by intro h; rcases h with h | h; · exact decDigits_ne _ h
                     · omega), refNum_dec _ (by omega)]
      have e : ((v.toNat : Nat) : Int) = v := by omega
      simp only [e]
      rw [if_pos ⟨trivial, h2⟩]
  cases hn : number l most with
  | none =>
    cases hr : refNumber l most with
    | none => rfl
    | some v => exact absurd ((hiff v).1 hr) (by rw [hn]; intro h; cases h)
  | some v => exact (hiff v).2 hn
end Go.OctetPlain
