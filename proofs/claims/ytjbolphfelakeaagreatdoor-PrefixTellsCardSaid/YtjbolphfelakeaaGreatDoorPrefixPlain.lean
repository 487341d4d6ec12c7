import Init.Data.List.Lemmas
import Derived.Test.YtjbolphfelakeaaGreatDoorColonPlain
/- Plain laws of prefixes: the first bits of an address. -/
namespace Go.PrefixPlain
set_option linter.unusedVariables false
set_option linter.unusedSimpArgs false

/-- the byte whose first bits are set -/
def keepN (left : Nat) : UInt8 := UInt8.ofNat (65280 >>> left)
/-- how many bits of a byte are kept -/
def leftN (bits : Int) (i : Nat) : Nat := (min (max (bits - 8 * i) 0) 8).toNat
/-- an address's first bits -/
def first (a : List UInt8) (bits : Int) : List UInt8 := a.mapIdx fun i c => c &&& keepN (leftN bits i)
/-- a byte's bit, from the front on -/
def bitB (c : UInt8) (j : Nat) : Nat := (c.toNat >>> (7 - j)) % 2
def bitN (a : List UInt8) (i : Nat) : Nat := bitB (a.getD (i / 8) 0) (i % 8)
def bit (a : List UInt8) (i : Int) : Int := if i < 0 ∨ 128 ≤ i then 0 else bitN a i.toNat

theorem first_length (a : List UInt8) (n : Int) : (first a n).length = a.length := by simp [first]
theorem first_get {a : List UInt8} {i : Nat} {c : UInt8} (n : Int) (h : a[i]? = some c) : (first a n)[i]? = some (c &&& keepN (leftN n i)) := by simp [first, h]
theorem bitB_lt (c : UInt8) (j : Nat) : bitB c j < 2 := Nat.mod_lt _ (by omega)
theorem bitB_keep : ∀ (c : Fin 256) (left : Fin 9) (j : Fin 8), bitB (UInt8.ofNat c &&& keepN left) j = if (j : Nat) < left then bitB (UInt8.ofNat c) j else 0 := by decide +kernel
theorem byte_sum : ∀ c : Fin 256, (c : Nat) = 128 * bitB (UInt8.ofNat c) 0 + 64 * bitB (UInt8.ofNat c) 1 + 32 * bitB (UInt8.ofNat c) 2 + 16 * bitB (UInt8.ofNat c) 3 + 8 * bitB (UInt8.ofNat c) 4 + 4 * bitB (UInt8.ofNat c) 5 + 2 * bitB (UInt8.ofNat c) 6 + bitB (UInt8.ofNat c) 7 := by decide +kernel
theorem keep_step : ∀ (c : Fin 256) (j : Fin 8), (UInt8.ofNat c &&& keepN (j + 1)).toNat = (UInt8.ofNat c &&& keepN j).toNat + (if bitB (UInt8.ofNat c) j = 1 then 128 >>> (j : Nat) else 0) := by decide +kernel
theorem keep_eight : ∀ (c : Fin 256), UInt8.ofNat c &&& keepN 8 = UInt8.ofNat c := by decide +kernel
theorem keep_zero : ∀ (c : Fin 256), UInt8.ofNat c &&& keepN 0 = 0 := by decide +kernel
theorem of_nat (c : UInt8) : UInt8.ofNat ((⟨c.toNat, c.toNat_lt⟩ : Fin 256) : Nat) = c := by simp
theorem byte_ext {c d : UInt8} (h : ∀ j, j < 8 → bitB c j = bitB d j) : c = d := by
  have hc := byte_sum ⟨c.toNat, c.toNat_lt⟩
  have hd := byte_sum ⟨d.toNat, d.toNat_lt⟩
  rw [of_nat] at hc hd
  rw [h 0 (by omega), h 1 (by omega), h 2 (by omega), h 3 (by omega), h 4 (by omega), h 5 (by omega), h 6 (by omega), h 7 (by omega), ← hd] at hc
  exact UInt8.toNat_inj.1 hc
theorem leftN_le (n : Int) (i : Nat) : leftN n i < 9 := by unfold leftN; omega
theorem bitN_lt (a : List UInt8) (i : Nat) : bitN a i < 2 := bitB_lt _ _
theorem bitN_first {a : List UInt8} (ha : a.length = 16) (n : Int) {i : Nat} (hi : i < 128) : bitN (first a n) i = if (i : Int) < n then bitN a i else 0 := by
  obtain ⟨c, hc⟩ : ∃ c, a[i / 8]? = some c := ⟨_, List.getElem?_eq_getElem (by omega)⟩
  have h1 := first_get n hc
  have h2 := bitB_keep ⟨c.toNat, c.toNat_lt⟩ ⟨leftN n (i / 8), leftN_le _ _⟩ ⟨i % 8, Nat.mod_lt _ (by omega)⟩
  rw [of_nat] at h2
  simp only [bitN, List.getD_eq_getElem?_getD, h1, hc, Option.getD_some, h2]
  have : (i % 8 < leftN n (i / 8)) ↔ (i : Int) < n := by unfold leftN; omega
  simp only [this]
theorem list_ext {a b : List UInt8} (ha : a.length = 16) (hb : b.length = 16) (h : ∀ i, i < 128 → bitN a i = bitN b i) : a = b := by
  apply List.ext_getElem?
  intro k
  by_cases hk : k < 16
  · rw [List.getElem?_eq_getElem (by omega), List.getElem?_eq_getElem (by omega)]
    congr 1
    apply byte_ext
    intro j hj
    have := h (8 * k + j) (by omega)
    have e1 : (8 * k + j) / 8 = k := by omega
    have e2 : (8 * k + j) % 8 = j := by omega
    simpa [bitN, e1, e2, List.getD_eq_getElem?_getD, List.getElem?_eq_getElem (show k < a.length by omega), List.getElem?_eq_getElem (show k < b.length by omega)] using this
  · rw [List.getElem?_eq_none (by omega), List.getElem?_eq_none (by omega)]
/-- two addresses' first bits are the same just if their bits are -/
theorem first_eq {a b : List UInt8} (ha : a.length = 16) (hb : b.length = 16) (n : Int) : first a n = first b n ↔ ∀ i : Nat, i < 128 → (i : Int) < n → bitN a i = bitN b i := by
  constructor
  · intro h i hi hn
    have h1 := bitN_first ha n hi
    have h2 := bitN_first hb n hi
    rw [h, h2, if_pos hn, if_pos hn] at h1
    exact h1.symm
  · intro h
    refine list_ext (by rw [first_length, ha]) (by rw [first_length, hb]) fun i hi => ?_
    rw [bitN_first ha n hi, bitN_first hb n hi]
    split
    · exact h i hi (by assumption)
    · rfl
theorem first_self {a : List UInt8} (ha : a.length = 16) (n : Int) : first a n = a ↔ ∀ i : Nat, i < 128 → n ≤ (i : Int) → bitN a i = 0 := by
  constructor
  · intro h i hi hn
    have h1 := bitN_first ha n hi
    rw [h, if_neg (by omega)] at h1
    exact h1
  · intro h
    refine list_ext (by rw [first_length, ha]) ha fun i hi => ?_
    rw [bitN_first ha n hi]
    split
    · rfl
    · exact (h i hi (by omega)).symm
theorem first_first {a : List UInt8} (ha : a.length = 16) (m n : Int) : first (first a m) n = first a (min m n) := by
  refine list_ext (by rw [first_length, first_length, ha]) (by rw [first_length, ha]) fun i hi => ?_
  rw [bitN_first (by rw [first_length, ha]) n hi, bitN_first ha m hi, bitN_first ha _ hi]
  by_cases h1 : (i : Int) < n
  · by_cases h2 : (i : Int) < m
    · rw [if_pos h1, if_pos h2, if_pos (by omega)]
    · rw [if_pos h1, if_neg h2, if_neg (by omega)]
  · rw [if_neg h1, if_neg (by omega)]
theorem first_over {a : List UInt8} (ha : a.length = 16) {n : Int} (h : 128 ≤ n) : first a n = a := (first_self ha n).2 fun i hi hn => by omega
theorem first_neg {a : List UInt8} {n : Int} (h : n ≤ 0) : first a n = List.replicate a.length 0 := by
  apply List.ext_getElem?
  intro k
  by_cases hk : k < a.length
  · obtain ⟨c, hc⟩ : ∃ c, a[k]? = some c := ⟨_, List.getElem?_eq_getElem hk⟩
    rw [first_get n hc]
    have e : leftN n k = 0 := by unfold leftN; omega
    have := keep_zero ⟨c.toNat, c.toNat_lt⟩
    rw [of_nat] at this
    rw [e, this]
    simp [hk]
  · rw [List.getElem?_eq_none (by rw [first_length]; omega), List.getElem?_eq_none (by simp; omega)]
/-- one bit more -/
theorem first_step {a : List UInt8} (ha : a.length = 16) {i : Nat} (hi : i < 128) : first a ((i : Int) + 1) = (first a i).set (i / 8) (UInt8.ofNat (((first a i).getD (i / 8) 0).toNat + if bitN a i = 1 then 128 >>> (i % 8) else 0)) := by
  obtain ⟨c, hc⟩ : ∃ c, a[i / 8]? = some c := ⟨_, List.getElem?_eq_getElem (by omega)⟩
  apply List.ext_getElem?
  intro k
  by_cases hk : k = i / 8
  · subst hk
    rw [first_get _ hc, List.getElem?_set_self (by rw [first_length]; omega)]
    congr 1
    have h := keep_step ⟨c.toNat, c.toNat_lt⟩ ⟨i % 8, Nat.mod_lt _ (by omega)⟩
    rw [of_nat] at h
    have e1 : leftN ((i : Int) + 1) (i / 8) = i % 8 + 1 := by unfold leftN; omega
    have e2 : leftN (i : Int) (i / 8) = i % 8 := by unfold leftN; omega
    rw [List.getD_eq_getElem?_getD, first_get _ hc, Option.getD_some, e1, e2]
    have hb : bitN a i = bitB c (i % 8) := by simp [bitN, List.getD_eq_getElem?_getD, hc]
    rw [hb]
    simp only at h
    rw [← h]
    simp
  · rw [List.getElem?_set_ne (Ne.symm hk)]
    by_cases h16 : k < 16
    · obtain ⟨d, hd⟩ : ∃ d, a[k]? = some d := ⟨_, List.getElem?_eq_getElem (by omega)⟩
      rw [first_get _ hd, first_get _ hd]
      have : leftN ((i : Int) + 1) k = leftN i k := by unfold leftN; omega
      rw [this]
    · rw [List.getElem?_eq_none (by rw [first_length]; omega), List.getElem?_eq_none (by rw [first_length]; omega)]
end Go.PrefixPlain

/- Plain laws of prefixes: what covers what. -/
namespace Go.PrefixPlain
set_option linter.unusedVariables false
set_option linter.unusedSimpArgs false

structure Pf where
  six : Bool
  addr : List UInt8
  len : Int
deriving DecidableEq
def most (six : Bool) : Int := if six then 128 else 32
def ok (p : Pf) : Prop := 0 ≤ p.len ∧ p.len ≤ most p.six ∧ first p.addr p.len = p.addr
instance (p : Pf) : Decidable (ok p) := by unfold ok; infer_instance
def ofP (six : Bool) (a : List UInt8) (bits : Int) : Pf := ⟨six, first a (min (max bits 0) (most six)), min (max bits 0) (most six)⟩
def has (p : Pf) (a : List UInt8) : Bool := decide (first p.addr p.len = first a p.len)
def covers (p q : Pf) : Bool := decide (p.six = q.six) && (decide (p.len ≤ q.len) && has p q.addr)
def commonFrom (a b : List UInt8) : Nat → Nat → Nat
  | n, 0 => n
  | n, k + 1 => if bitN a n = bitN b n then commonFrom a b (n + 1) k else n
/-- how many numbers are looked at -/
def mostN (p q : Pf) : Nat := (min (min p.len q.len) 128).toNat
def common (p q : Pf) : Pf := ofP p.six p.addr (commonFrom p.addr q.addr 0 (mostN p q))

theorem most_pos (six : Bool) : 32 ≤ most six ∧ most six ≤ 128 := by unfold most; split <;> omega
theorem ok_bits {p : Pf} (h : p.addr.length = 16) : ok p ↔ 0 ≤ p.len ∧ p.len ≤ most p.six ∧ ∀ i : Nat, i < 128 → p.len ≤ (i : Int) → bitN p.addr i = 0 := by
  unfold ok; rw [first_self h]
theorem has_bits {p : Pf} {a : List UInt8} (h : p.addr.length = 16) (ha : a.length = 16) : has p a = true ↔ ∀ i : Nat, i < 128 → (i : Int) < p.len → bitN p.addr i = bitN a i := by
  unfold has; rw [decide_eq_true_iff, first_eq h ha]
theorem covers_iff (p q : Pf) : covers p q = true ↔ p.six = q.six ∧ p.len ≤ q.len ∧ has p q.addr = true := by
  unfold covers; simp
theorem ofP_len (six : Bool) {a : List UInt8} (ha : a.length = 16) (n : Int) : (ofP six a n).addr.length = 16 := by simp [ofP, first_length, ha]
theorem ofP_ok (six : Bool) {a : List UInt8} (ha : a.length = 16) (n : Int) : ok (ofP six a n) := by
  have := most_pos six
  refine ⟨?_, ?_, ?_⟩
  · show 0 ≤ min (max n 0) (most six); omega
  · show min (max n 0) (most six) ≤ most six; omega
  · show first (first a (min (max n 0) (most six))) (min (max n 0) (most six)) = first a (min (max n 0) (most six))
    rw [first_first ha, Int.min_self]
theorem ofP_has (six : Bool) {a : List UInt8} (ha : a.length = 16) (n : Int) : has (ofP six a n) a = true := by
  unfold has
  rw [decide_eq_true_iff]
  show first (first a (min (max n 0) (most six))) (min (max n 0) (most six)) = first a (min (max n 0) (most six))
  rw [first_first ha, Int.min_self]
theorem common_spec (a b : List UInt8) : ∀ (k n : Nat), n ≤ commonFrom a b n k ∧ commonFrom a b n k ≤ n + k ∧ (∀ i, n ≤ i → i < commonFrom a b n k → bitN a i = bitN b i) ∧ (commonFrom a b n k < n + k → bitN a (commonFrom a b n k) ≠ bitN b (commonFrom a b n k))
  | 0, n => by simp only [commonFrom]; exact ⟨by omega, by omega, fun i h1 h2 => by omega, fun h => by omega⟩
  | k + 1, n => by
    rw [commonFrom]
    by_cases h : bitN a n = bitN b n
    · rw [if_pos h]
      obtain ⟨h1, h2, h3, h4⟩ := common_spec a b k (n + 1)
      refine ⟨by omega, by omega, fun i hi hl => ?_, fun hl => h4 (by omega)⟩
      by_cases he : i = n
      · subst he; exact h
      · exact h3 i (by omega) hl
    · rw [if_neg h]
      exact ⟨by omega, by omega, fun i h1 h2 => by omega, fun _ => h⟩

/-- Masks -/
theorem masks (six : Bool) {a : List UInt8} (ha : a.length = 16) (m n : Nat) : ofP six (ofP six a n).addr (min (m : Int) (ofP six a n).len) = ofP six a (min (m : Int) n) ∧ (m ≤ n → covers (ofP six a m) (ofP six a n) = true) := by
  have hm := most_pos six
  constructor
  · unfold ofP
    simp only [first_first ha]
    have e : min (max (min (m : Int) (min (max (n : Int) 0) (most six))) 0) (most six) = min (max (min (m : Int) n) 0) (most six) := by omega
    rw [e]
    congr 2
    omega
  · intro h
    rw [covers_iff]
    refine ⟨rfl, ?_, ?_⟩
    · show min (max (m : Int) 0) (most six) ≤ min (max (n : Int) 0) (most six); omega
    · unfold has
      rw [decide_eq_true_iff]
      show first (first a _) _ = first (first a _) _
      rw [first_first ha, first_first ha]
      congr 1
      show min (min (max (m : Int) 0) (most six)) (min (max (m : Int) 0) (most six)) = min (min (max (n : Int) 0) (most six)) (min (max (m : Int) 0) (most six))
      omega
/-- Apart -/
theorem has_trans {p q : Pf} {a : List UInt8} (hp : p.addr.length = 16) (hq : q.addr.length = 16) (ha : a.length = 16) (hl : p.len ≤ q.len) (h1 : has p q.addr = true) (h2 : has q a = true) : has p a = true := by
  rw [has_bits hp hq] at h1
  rw [has_bits hq ha] at h2
  rw [has_bits hp ha]
  exact fun i hi hn => (h1 i hi hn).trans (h2 i hi (by omega))
theorem has_both {p q : Pf} {a : List UInt8} (hp : p.addr.length = 16) (hq : q.addr.length = 16) (ha : a.length = 16) (hs : p.six = q.six) (hl : p.len ≤ q.len) (h1 : has p a = true) (h2 : has q a = true) : covers p q = true := by
  rw [covers_iff]
  refine ⟨hs, hl, ?_⟩
  rw [has_bits hp ha] at h1
  rw [has_bits hq ha] at h2
  rw [has_bits hp hq]
  exact fun i hi hn => (h1 i hi hn).trans (h2 i hi (by omega)).symm
theorem covers_eq {p q : Pf} (hp : ok p) (hq : ok q) (h1 : covers p q = true) (h2 : covers q p = true) : p = q := by
  rw [covers_iff] at h1 h2
  obtain ⟨hs, hl, hh⟩ := h1
  have hl2 : p.len = q.len := by omega
  unfold has at hh
  rw [decide_eq_true_iff, hp.2.2, hl2, hq.2.2] at hh
  cases p; cases q; simp_all
theorem common_ok {p q : Pf} (hp : ok p) (hq : ok q) (h16 : p.addr.length = 16) (g16 : q.addr.length = 16) (hs : p.six = q.six) :
    ok (common p q) ∧ covers (common p q) p = true ∧ covers (common p q) q = true ∧ (ofP p.six p.addr ((common p q).len + 1) = common p q ∨ ¬ (covers (ofP p.six p.addr ((common p q).len + 1)) p = true ∧ covers (ofP p.six p.addr ((common p q).len + 1)) q = true)) := by
  obtain ⟨s1, s2, s3, s4⟩ := common_spec p.addr q.addr (mostN p q) 0
  have hm := most_pos p.six
  obtain ⟨hp1, hp2, hp3⟩ := hp
  obtain ⟨hq1, hq2, hq3⟩ := hq
  have hM : (mostN p q : Int) = min p.len q.len := by unfold mostN; rw [hs] at hp2 hm; omega
  have hcl : (common p q).len = commonFrom p.addr q.addr 0 (mostN p q) := by
    show min (max ((commonFrom p.addr q.addr 0 (mostN p q) : Nat) : Int) 0) (most p.six) = _
    omega
  have hca : (common p q).addr = first p.addr (commonFrom p.addr q.addr 0 (mostN p q)) := by
    show first p.addr (min (max ((commonFrom p.addr q.addr 0 (mostN p q) : Nat) : Int) 0) (most p.six)) = _
    congr 1
  have hc16 : (common p q).addr.length = 16 := ofP_len _ h16 _
  generalize commonFrom p.addr q.addr 0 (mostN p q) = c at s1 s2 s3 s4 hcl hca
  refine ⟨ofP_ok _ h16 _, ?_, ?_, ?_⟩
  · rw [covers_iff]
    refine ⟨rfl, by omega, ?_⟩
    rw [has_bits hc16 h16]
    intro i hi hn
    rw [hca, bitN_first h16 _ hi, if_pos (by omega)]
  · rw [covers_iff]
    refine ⟨hs, by omega, ?_⟩
    rw [has_bits hc16 g16]
    intro i hi hn
    rw [hca, bitN_first h16 _ hi, if_pos (by omega)]
    exact s3 i (by omega) (by omega)
  · by_cases hlt : c < mostN p q
    · right
      rintro ⟨-, hd⟩
      rw [covers_iff] at hd
      obtain ⟨-, -, hh⟩ := hd
      rw [has_bits (ofP_len _ h16 _) g16] at hh
      have e : min (max ((common p q).len + 1) 0) (most p.six) = (c : Int) + 1 := by omega
      have h1 := hh c (by omega) (by show (c : Int) < min (max ((common p q).len + 1) 0) (most p.six); omega)
      have h2 : bitN (first p.addr (min (max ((common p q).len + 1) 0) (most p.six))) c = bitN q.addr c := h1
      rw [e, bitN_first h16 _ (by omega), if_pos (by omega)] at h2
      exact s4 (by omega) h2
    · by_cases hmm : (c : Int) < most p.six
      · right
        rintro ⟨h1, h2⟩
        rw [covers_iff] at h1 h2
        have e : min (max ((common p q).len + 1) 0) (most p.six) = (c : Int) + 1 := by omega
        have l1 : min (max ((common p q).len + 1) 0) (most p.six) ≤ p.len := h1.2.1
        have l2 : min (max ((common p q).len + 1) 0) (most p.six) ≤ q.len := h2.2.1
        omega
      · left
        have e1 : min (max ((common p q).len + 1) 0) (most p.six) = (common p q).len := by omega
        have : ofP p.six p.addr ((common p q).len + 1) = ⟨p.six, first p.addr (common p q).len, (common p q).len⟩ := by
          unfold ofP; rw [e1]
        rw [this]
        rw [show common p q = ⟨(common p q).six, (common p q).addr, (common p q).len⟩ from rfl]
        congr 1

/-- which one stands ahead -/
def cmpB : List UInt8 → List UInt8 → Int
  | a :: l, b :: m => if a < b then -1 else if b < a then 1 else cmpB l m
  | [], [] => 0
  | [], _ :: _ => -1
  | _ :: _, [] => 1
def cmpI (a b : Int) : Int := if a < b then -1 else if b < a then 1 else 0
def cmpP (p q : Pf) : Int := if p.six ≠ q.six then (if q.six then -1 else 1) else if cmpB p.addr q.addr ≠ 0 then cmpB p.addr q.addr else cmpI p.len q.len
theorem cmpI_neg (a b : Int) : cmpI b a = 0 - cmpI a b := by unfold cmpI; split <;> split <;> (try split) <;> (try split) <;> omega
theorem cmpI_zero (a b : Int) : cmpI a b = 0 ↔ a = b := by unfold cmpI; split <;> (try split) <;> omega
theorem cmpB_neg : ∀ a b : List UInt8, cmpB b a = 0 - cmpB a b
  | a :: l, b :: m => by
    have ih := cmpB_neg l m
    simp only [cmpB, UInt8.lt_iff_toNat_lt]
    split <;> split <;> (try split) <;> (try split) <;> first | omega | exact ih
  | [], [] => rfl
  | [], _ :: _ => rfl
  | _ :: _, [] => rfl
theorem cmpB_zero : ∀ a b : List UInt8, cmpB a b = 0 ↔ a = b
  | a :: l, b :: m => by
    have ih := cmpB_zero l m
    simp only [cmpB, UInt8.lt_iff_toNat_lt, List.cons.injEq, ← UInt8.toNat_inj]
    split
    · constructor
      · intro h; omega
      · intro h; omega
    · split
      · constructor
        · intro h; omega
        · intro h; omega
      · rw [ih]
        constructor
        · intro h; exact ⟨by omega, h⟩
        · intro h; exact h.2
  | [], [] => by simp [cmpB]
  | [], _ :: _ => by simp [cmpB]
  | _ :: _, [] => by simp [cmpB]
theorem cmpP_neg (p q : Pf) : cmpP q p = 0 - cmpP p q := by
  unfold cmpP
  have h1 := cmpB_neg p.addr q.addr
  have h2 := cmpI_neg p.len q.len
  cases hp : p.six <;> cases hq : q.six <;> simp
  · split <;> split <;> omega
  · split <;> split <;> omega
theorem cmpP_zero (p q : Pf) : cmpP p q = 0 ↔ p = q := by
  unfold cmpP
  have h1 := cmpB_zero p.addr q.addr
  have h2 := cmpI_zero p.len q.len
  obtain ⟨ps, pa, pl⟩ := p
  obtain ⟨qs, qa, ql⟩ := q
  simp only at h1 h2
  by_cases hz : cmpB pa qa = 0
  · have he := h1.1 hz
    rw [if_neg (show ¬ cmpB pa qa ≠ 0 by simp [hz])]
    cases ps <;> cases qs <;> simp [he, h2]
  · have he : pa ≠ qa := fun h => hz (h1.2 h)
    cases ps <;> cases qs <;> simp [hz, he]
end Go.PrefixPlain

/- Plain laws of prefixes: their texts. -/
namespace Go.PrefixPlain
set_option linter.unusedVariables false
set_option linter.unusedSimpArgs false
open Go.OctetPlain Go.ColonPlain Go.Lib

/-- parts with a point between -/
def dotJ : List (List UInt8) → List UInt8
  | [] => []
  | [p] => p
  | p :: q :: r => p ++ 46 :: dotJ (q :: r)
def showD (a : List UInt8) : List UInt8 := dotJ (a.map fun c => decDigits c.toNat)
theorem dotJ_snoc : ∀ (l : List (List UInt8)) (x : List UInt8), l ≠ [] → dotJ (l ++ [x]) = dotJ l ++ 46 :: x
  | [], x, h => absurd rfl h
  | [p], x, h => rfl
  | p :: q :: r, x, h => by
    have := dotJ_snoc (q :: r) x (by simp)
    simp only [List.cons_append, dotJ] at this ⊢
    rw [this]
    simp
theorem showD_snoc {l : List UInt8} (h : l ≠ []) (c : UInt8) : showD (l ++ [c]) = showD l ++ 46 :: decDigits c.toNat := by
  unfold showD
  rw [List.map_append, List.map_singleton, dotJ_snoc _ _ (by simpa using h)]
theorem dotted_show {a : List UInt8} (h : a.length = 4) : dotted (showD a) = some a := by
  match a, h with
  | [a, b, c, d], _ =>
    have e : splitC 46 (showD [a, b, c, d]) = [decDigits a.toNat, decDigits b.toNat, decDigits c.toNat, decDigits d.toNat] := by
      unfold showD
      simp only [List.map_cons, List.map_nil, dotJ]
      rw [splitC_app _ (dec_dot _), splitC_app _ (dec_dot _), splitC_app _ (dec_dot _), splitC_no (dec_dot _)]
    have ha := a.toNat_lt
    have hb := b.toNat_lt
    have hc := c.toNat_lt
    have hd := d.toNat_lt
    unfold dotted
    rw [e]
    simp only [dotParts]
    rw [number_dec (show a.toNat ≤ 255 by omega)]
    simp only [dotParts, List.length_nil, List.nil_append]
    rw [number_dec (show b.toNat ≤ 255 by omega)]
    simp [dotParts]
    rw [number_dec (show c.toNat ≤ 255 by omega)]
    simp [dotParts]
    rw [number_dec (show d.toNat ≤ 255 by omega)]
    simp [dotParts]
/-- a prefix's text -/
def textP (p : Pf) : List UInt8 := if p.six = true then show_ p.addr else showD (p.addr.take 4)
def showP (p : Pf) : List UInt8 := textP p ++ 47 :: itoa p.len
/-- an address's text -/
def addr2 (s : List UInt8) : Option (Bool × List UInt8) := match parse s with
  | some a => some (true, a)
  | none => match dotted s with
    | some a => some (false, a ++ List.replicate 12 0)
    | none => none
def parseP (s : List UInt8) : Option Pf := match addr2 (cut s [47]).1 with
  | none => none
  | some (six, a) => match number (cut s [47]).2.1 128 with
    | none => none
    | some n => if ok ⟨six, a, n⟩ then some ⟨six, a, n⟩ else none

theorem mem_split (d : UInt8) : ∀ {l : List UInt8} {c : UInt8}, c ∈ l → c = d ∨ ∃ p ∈ splitC d l, c ∈ p
  | x :: r, c, h => by
    by_cases hx : x = d
    · subst hx
      rcases List.mem_cons.1 h with rfl | h
      · exact Or.inl rfl
      · rcases mem_split x h with h | ⟨p, hp, hc⟩
        · exact Or.inl h
        · refine Or.inr ⟨p, ?_, hc⟩
          simp [splitC, hp]
    · have e : splitC d (x :: r) = (x :: (splitC d r).headD []) :: (splitC d r).tail := by simp [splitC, hx]
      rcases List.mem_cons.1 h with rfl | h
      · exact Or.inr ⟨_, by rw [e]; exact List.mem_cons_self, List.mem_cons_self⟩
      · rcases mem_split d h with h | ⟨p, hp, hc⟩
        · exact Or.inl h
        · have hne := splitC_ne d r
          cases hs : splitC d r with
          | nil => exact absurd hs hne
          | cons a b =>
            rw [hs] at hp
            rcases List.mem_cons.1 hp with rfl | hp
            · exact Or.inr ⟨_, by rw [e]; exact List.mem_cons_self, by rw [hs]; exact List.mem_cons_of_mem _ hc⟩
            · exact Or.inr ⟨p, by rw [e, hs]; exact List.mem_cons_of_mem _ hp, hc⟩
theorem number_chars {p : List UInt8} {m v : Int} (h : number p m = some v) : ∀ c ∈ p, 48 ≤ c.toNat ∧ c.toNat ≤ 57 := by
  obtain ⟨_, _, _, e⟩ := number_some.1 h
  rw [e]
  exact decDigits_dig _
theorem dotParts_chars : ∀ (ps : List (List UInt8)) (out a : List UInt8), dotParts out ps = some a → ∀ p ∈ ps, ∀ c ∈ p, 48 ≤ c.toNat ∧ c.toNat ≤ 57
  | [], out, a, h, p, hp => by cases hp
  | q :: ps, out, a, h, p, hp => by
    simp only [dotParts] at h
    cases hn : number q 255 with
    | none => rw [hn] at h; cases h
    | some n =>
      rw [hn] at h
      simp only at h
      split at h
      · cases h
      · rcases List.mem_cons.1 hp with rfl | hp
        · exact number_chars hn
        · exact dotParts_chars ps _ a h p hp
theorem dotted_chars {l a : List UInt8} (h : dotted l = some a) : ∀ c ∈ l, c = 46 ∨ (48 ≤ c.toNat ∧ c.toNat ≤ 57) := by
  intro c hc
  rcases mem_split 46 hc with h1 | ⟨p, hp, hcp⟩
  · exact Or.inl h1
  · exact Or.inr (dotParts_chars _ _ a h p hp c hcp)
theorem group_chars : ∀ (l : List UInt8) (n s m : Nat), groupFrom n s l = some m → ∀ c ∈ l, 0 ≤ dig c
  | [], n, s, m, h, c, hc => by cases hc
  | x :: r, n, s, m, h, c, hc => by
    unfold groupFrom at h
    split at h
    · cases h
    · rcases List.mem_cons.1 hc with rfl | hc
      · omega
      · exact group_chars r _ _ m h c hc
/-- what may stand in an address's text -/
def Fine (c : UInt8) : Prop := c = 58 ∨ c = 46 ∨ (48 ≤ c.toNat ∧ c.toNat ≤ 57) ∨ 0 ≤ dig c
theorem rowParts_chars (last : Bool) : ∀ (ps : List (List UInt8)) (out L : List Nat), rowParts last out ps = some L → ∀ p ∈ ps, ∀ c ∈ p, Fine c
  | [], out, L, h, p, hp => by cases hp
  | q :: ps, out, L, h, p, hp => by
    rw [rowParts] at h
    cases hg : group q with
    | some n =>
      rw [hg] at h
      rcases List.mem_cons.1 hp with rfl | hp
      · exact fun c hc => Or.inr (Or.inr (Or.inr (group_chars _ _ _ _ hg c hc)))
      · exact rowParts_chars last ps _ L h p hp
    | none =>
      rw [hg] at h
      cases hd : dotted q with
      | none => rw [hd] at h; cases h
      | some a =>
        rw [hd] at h
        simp only at h
        split at h
        · rename_i hl
          rw [hl.2] at hp
          rcases List.mem_cons.1 hp with rfl | hp
          · intro c hc
            rcases dotted_chars hd c hc with h1 | h1
            · exact Or.inr (Or.inl h1)
            · exact Or.inr (Or.inr (Or.inl h1))
          · cases hp
        · cases h
theorem row_chars {last : Bool} {l : List UInt8} {L : List Nat} (h : row last l = some L) : ∀ c ∈ l, Fine c := by
  unfold row at h
  split at h
  · rename_i hn; rw [hn]; intro c hc; cases hc
  · intro c hc
    rcases mem_split 58 hc with h1 | ⟨p, hp, hcp⟩
    · exact Or.inl h1
    · exact rowParts_chars last _ _ L h p hp c hcp
theorem fine_47 : ¬ Fine 47 := by unfold Fine; decide
theorem index_two : ∀ (s : List UInt8), 0 ≤ index s [58, 58] → s.drop (index s [58, 58]).toNat = [58, 58] ++ s.drop ((index s [58, 58]).toNat + 2)
  | [], h => by simp [index] at h
  | b :: l, h => by
    have ih := index_two l
    rw [index, dd_zero] at h ⊢
    by_cases hd : ddAt (b :: l) 0
    · rw [decide_eq_true hd, if_pos rfl]
      obtain ⟨h1, h2⟩ := hd
      cases l with
      | nil => simp at h2
      | cons c r => simp at h1 h2; subst h1; subst h2; rfl
    · rw [decide_eq_false hd] at h ⊢
      simp only [Bool.false_eq_true, if_false] at h ⊢
      split at h
      · omega
      · rename_i hx
        rw [if_neg hx]
        have hge := index_ge l [58, 58]
        have hx2 : index l [58, 58] ≠ -1 := by simpa using hx
        have h0 : 0 ≤ index l [58, 58] := by omega
        have e : (index l [58, 58] + 1).toNat = (index l [58, 58]).toNat + 1 := by omega
        rw [e]
        simpa using ih h0
theorem parse_no_dd' {l : List UInt8} (h : ∀ j, ¬ ddAt l j) : parse l = match row true l with
    | none => none
    | some a => if a.length = 8 then of (ints a) else none := by
  have hc := cut_no_dd h
  cases hr : row true l with
  | none => exact parse_none_a (by rw [hc]; exact hr)
  | some a =>
    rw [parse_some (a := a) (b := []) (by rw [hc]; exact hr) (by rw [hc]; rfl), hc]
    by_cases h8 : a.length = 8
    · rw [if_neg (by simp [h8])]
      simp [h8]
    · rw [if_pos (Or.inr ⟨rfl, by simpa using h8⟩)]
      simp [h8]
theorem parse_chars {s a : List UInt8} (h : parse s = some a) : ∀ c ∈ s, Fine c := by
  cases ha : row (!(cut s [58, 58]).2.2) (cut s [58, 58]).1 with
  | none => rw [parse_none_a ha] at h; cases h
  | some x =>
    cases hb : row true (cut s [58, 58]).2.1 with
    | none => rw [parse_none_b hb] at h; cases h
    | some y =>
      have h1 := row_chars ha
      have h2 := row_chars hb
      intro c hc
      unfold cut at h1 h2
      split at h1
      · rename_i hi
        rw [if_pos hi] at h2
        simp only at h1 h2
        rw [← List.take_append_drop (index s [58, 58]).toNat s] at hc
        rcases List.mem_append.1 hc with hc | hc
        · exact h1 c hc
        · -- behind the front: two colons, then the rest
          have hd := index_two s hi
          rw [hd] at hc
          rcases List.mem_append.1 hc with hc | hc
          · left; simpa using hc
          · exact h2 c hc
      · exact h1 c hc
theorem dotted_parse {s a : List UInt8} (h : dotted s = some a) : parse s = none := by
  have hch := dotted_chars h
  have h58 : (58 : UInt8) ∉ s := by
    intro hm
    rcases hch 58 hm with h1 | h1
    · cases h1
    · exact absurd h1.2 (by decide)
  have hno : ∀ j, ¬ ddAt s j := fun j hj => h58 (List.mem_of_getElem? hj.1)
  rw [parse_no_dd' hno]
  have hne : s ≠ [] := by
    rintro rfl
    simp [dotted, splitC, dotParts, number_nil] at h
  have hrow : row true s = rowParts true [] [s] := by
    unfold row; rw [if_neg hne, splitC_no h58]
  rw [hrow, rowParts]
  cases hg : group s with
  | some n => simp [rowParts]
  | none => simp [h]
theorem cut_one {d : UInt8} {x : List UInt8} (y : List UInt8) (h : d ∉ x) : cut (x ++ d :: y) [d] = (x, y, true) := by
  unfold cut
  rw [index_app y h, if_pos (by omega)]
  simp
theorem cut_none {d : UInt8} {x : List UInt8} (h : d ∉ x) : cut x [d] = (x, [], false) := by
  unfold cut
  rw [index_no h, if_neg (by omega)]
theorem number_bad2 {p : List UInt8} {c : UInt8} {m : Int} (hc : c ∈ p) (h : c.toNat < 48 ∨ 57 < c.toNat) : number p m = none := by
  cases hn : number p m with
  | none => rfl
  | some v => have := number_chars hn c hc; omega
theorem number_nil2 (m : Int) : number [] m = none := by
  cases h : number [] m with
  | none => rfl
  | some v => exact absurd (number_some.1 h).2.2.2.symm (decDigits_ne _)
/-- the document's reading of a text whose last bar stands between x and y -/
def parseL (x y : List UInt8) : Option Pf := match number y 128 with
  | none => none
  | some n => if (dotted x).isSome = true ∨ (parse x).isSome = true then
      (if ok ⟨(parse x).isSome, (match dotted x with | some a => a ++ List.replicate 12 0 | none => (parse x).getD (List.replicate 16 0)), n⟩ then some ⟨(parse x).isSome, (match dotted x with | some a => a ++ List.replicate 12 0 | none => (parse x).getD (List.replicate 16 0)), n⟩ else none)
    else none
theorem parseP_no {s : List UInt8} (h : (47 : UInt8) ∉ s) : parseP s = none := by
  unfold parseP
  rw [cut_none h]
  simp only [number_nil2]
  split <;> rfl
theorem addr2_47 {x : List UInt8} (h : (47 : UInt8) ∈ x) : dotted x = none ∧ parse x = none := by
  constructor
  · cases hd : dotted x with
    | none => rfl
    | some a =>
      rcases dotted_chars hd 47 h with h1 | h1
      · cases h1
      · exact absurd h1.1 (by decide)
  · cases hd : parse x with
    | none => rfl
    | some a => exact absurd (parse_chars hd 47 h) fine_47
theorem parseP_last {x y : List UInt8} (hy : (47 : UInt8) ∉ y) : parseP (x ++ 47 :: y) = parseL x y := by
  by_cases hx : (47 : UInt8) ∈ x
  · obtain ⟨h1, h2⟩ := addr2_47 hx
    have hR : parseL x y = none := by
      unfold parseL
      cases number y 128 with
      | none => rfl
      | some n => simp [h1, h2]
    rw [hR]
    obtain ⟨a, b, hab, hna⟩ := List.eq_append_cons_of_mem hx
    unfold parseP
    rw [hab, List.append_assoc, List.cons_append, cut_one _ hna]
    simp only
    rw [number_bad2 (c := 47) (by simp) (Or.inl (by decide))]
    split <;> rfl
  · unfold parseP parseL
    rw [cut_one _ hx]
    simp only
    unfold addr2
    cases hp : parse x with
    | some a =>
      have hd : dotted x = none := by
        cases hd : dotted x with
        | none => rfl
        | some b => rw [dotted_parse hd] at hp; cases hp
      simp only [hd]
      cases number y 128 with
      | none => rfl
      | some n => simp
    | none =>
      cases hd : dotted x with
      | none => cases number y 128 <;> simp
      | some b => cases number y 128 <;> simp
theorem ok_four {a : List UInt8} {n : Int} (ha : a.length = 16) (h : ok ⟨false, a, n⟩) : a = a.take 4 ++ List.replicate 12 0 := by
  rw [ok_bits (by exact ha)] at h
  obtain ⟨h1, h2, h3⟩ := h
  have h2' : n ≤ 32 := h2
  refine list_ext ha (by simp [ha]) fun i hi => ?_
  by_cases h4 : i < 32
  · have hk : i / 8 < 4 := by omega
    have e : (a.take 4 ++ List.replicate 12 0)[i / 8]? = a[i / 8]? := by
      rw [List.getElem?_append_left (by simp [ha]; omega), List.getElem?_take_of_lt hk]
    simp only [bitN, List.getD_eq_getElem?_getD, e]
  · have e1 := h3 i hi (by show n ≤ (i : Int); omega)
    have e : (a.take 4 ++ List.replicate 12 0)[i / 8]? = some 0 := by
      rw [List.getElem?_append_right (by simp [ha]; omega)]
      simp only [List.length_take, ha]
      rw [List.getElem?_replicate_of_lt (by omega)]
    have e2 : bitN (a.take 4 ++ List.replicate 12 0) i = 0 := by
      simp only [bitN, List.getD_eq_getElem?_getD, e, Option.getD_some, bitB]
      simp
    rw [e2]; exact e1
/-- what is shown is parsed -/
theorem parse_show_p {p : Pf} (h16 : p.addr.length = 16) (h : ok p) : parseP (showP p) = some p := by
  obtain ⟨six, a, n⟩ := p
  have h16' : a.length = 16 := h16
  have hn : 0 ≤ n ∧ n ≤ 128 := by
    have := most_pos six
    exact ⟨h.1, by have := h.2.1; simp only at this; omega⟩
  have hit : itoa n = decDigits n.toNat := by unfold itoa; rw [if_neg (by omega)]
  have hnum : number (decDigits n.toNat) 128 = some n := number_some.2 ⟨by omega, by omega, by omega, rfl⟩
  have hy : (47 : UInt8) ∉ decDigits n.toNat := fun hm => by have := decDigits_dig _ 47 hm; simp at this
  unfold showP
  rw [hit, parseP_last hy]
  unfold parseL textP
  simp only at hnum ⊢
  rw [hnum]
  cases six with
  | true =>
    have hp := parse_show h16'
    have hd : dotted (show_ a) = none := by
      cases hd : dotted (show_ a) with
      | none => rfl
      | some b => rw [dotted_parse hd] at hp; cases hp
    simp only [if_true, hp, hd, Option.isSome_some, Option.getD_some, or_true, if_pos h]
  | false =>
    have hd := dotted_show (a := a.take 4) (by simp [h16'])
    have hp := dotted_parse hd
    have e := ok_four h16' h
    simp only [Bool.false_eq_true, if_false, hp, hd, Option.isSome_some, true_or, if_true, Option.isSome_none, ← e, if_pos h]
end Go.PrefixPlain

/- The document's examples of layer 8. -/
namespace Go.PrefixPlain
open Go.OctetPlain Go.ColonPlain Go.Lib
def a10 (b c : UInt8) : List UInt8 := [10, b, c, 0, 0, 0, 0, 0, 0, 0, 0, 0, 0, 0, 0, 0]
def cP : Pf := ⟨false, a10 1 0, 16⟩
def cQ : Pf := ⟨false, a10 1 2, 24⟩
def cR : Pf := ⟨false, a10 0 0, 16⟩
def cS : Pf := ⟨false, a10 0 0, 15⟩
def tP : List UInt8 := [49, 48, 46, 49, 46, 48, 46, 48, 47, 49, 54]
def tQ : List UInt8 := [49, 48, 46, 49, 46, 50, 46, 48, 47, 50, 52]
def tR : List UInt8 := [49, 48, 46, 48, 46, 48, 46, 48, 47, 49, 54]
def tN : List UInt8 := [49, 48, 46, 49, 46, 48, 46, 49, 47, 49, 54]
def tS : List UInt8 := [49, 48, 46, 48, 46, 48, 46, 48, 47, 49, 53]
theorem kP : parseP tP = some cP := by decide +kernel
theorem kQ : parseP tQ = some cQ := by decide +kernel
theorem kR : parseP tR = some cR := by decide +kernel
theorem kN : parseP tN = none := by decide +kernel
theorem kS : common cP cR = cS := by decide +kernel
theorem kPQ : covers cP cQ = true := by decide +kernel
theorem kQP : covers cQ cP = false := by decide +kernel
theorem kShow : showP cS = tS := by decide +kernel
theorem kOk : ok cS := by decide +kernel
theorem kCmp : cmpP cR cP = -1 := by decide +kernel
theorem kBit : bit cP.addr 4 = 1 := by decide +kernel
theorem kHas : has cP cQ.addr = true := by decide +kernel
theorem kOf : ofP false cQ.addr 16 = cP := by decide +kernel
end Go.PrefixPlain
