/- Part of the proof: contracts of the functions that the statements of layer 32 reach. -/
import Derived.Lib.ItoaLen
import Derived.Lib.AtoiAllCases
set_option linter.unusedVariables false
set_option linter.unusedSimpArgs false
namespace Go.OctetPlain
open Go.Lib
theorem decDigits_ne (k : Nat) : decDigits k ≠ [] := by
 intro h
 have := decDigits_length k
 rw [h] at this
 have := nDigits_pos k
 simp at *
 omega
theorem decDigits_dig (k : Nat) : ∀ c ∈ decDigits k, 48 ≤ c.toNat ∧ c.toNat ≤ 57 := by
 induction k using Nat.strongRecOn with
 | _ k ih =>
  intro c hc
  by_cases h : k < 10
  ·rw [decDigits, dif_pos h] at hc
   rw [List.mem_singleton.1 hc, UInt8.toNat_ofNat']
   omega
  ·rw [decDigits, dif_neg h] at hc
   rcases List.mem_append.1 hc with hc | hc
   ·exact ih (k / 10) (by omega) c hc
   ·rw [List.mem_singleton.1 hc, UInt8.toNat_ofNat']
    omega
theorem parseUint10_append : ∀ (xs ys : List UInt8) (acc : Nat),
  parseUint10 acc (xs ++ ys) = match parseUint10 acc xs with | .ok a => parseUint10 a ys | NumEnd.syntax => NumEnd.syntax | .range => .range
 | [], ys, acc => rfl
 | c :: r, ys, acc => by
  rw [List.cons_append]
  simp only [parseUint10]
  split
  ·split
   ·rfl
   ·split
    ·rfl
    ·exact parseUint10_append r ys _
  ·rfl
theorem parseUint10_dec (k : Nat) (hk : k < 18446744073709551616) : parseUint10 0 (decDigits k) = .ok k := by
 induction k using Nat.strongRecOn with
 | _ k ih =>
  by_cases h : k < 10
  ·rw [decDigits, dif_pos h]
   have e : (UInt8.ofNat (48 + k)).toNat = 48 + k := by rw [UInt8.toNat_ofNat']; omega
   simp only [parseUint10, e]
   rw [if_pos (by omega), if_neg (by omega), if_neg (by omega)]
   congr 1; omega
  ·rw [decDigits, dif_neg h, parseUint10_append, ih (k / 10) (by omega) (by omega)]
   have e : (UInt8.ofNat (48 + k % 10)).toNat = 48 + k % 10 := by rw [UInt8.toNat_ofNat']; omega
   simp only [parseUint10, e]
   rw [if_pos (by omega), if_neg (by omega), if_neg (by omega)]
   congr 1; omega
theorem atoiAll_dec (k : Nat) (hk : k < 9223372036854775808) : atoiAll (decDigits k) = .ok (k : Int) := by
 have hne := decDigits_ne k
 have hd := decDigits_dig k
 have hp := parseUint10_dec k (by omega)
 cases hl : decDigits k with
 | nil => exact absurd hl hne
 | cons c r =>
  rw [hl] at hd hp
  have := hd c (List.mem_cons_self ..)
  rw [atoiAll_plain c r (by omega) (by omega)]
  unfold parseMag
  rw [if_neg (by simp), hp]
  simp only [signless]
  rw [if_neg (by omega)]
def number (l : List UInt8) (most : Int) : Option Int :=
 match atoiAll l with
 | .ok v => if 0 ≤ v ∧ v ≤ most ∧ itoa v = l then some v else none
 | _ => none
theorem number_some {l : List UInt8} {most v : Int} : number l most = some v ↔ 0 ≤ v ∧ v ≤ 9223372036854775807 ∧ v ≤ most ∧ l = decDigits v.toNat := by
 constructor
 ·intro h
  unfold number at h
  match ha : atoiAll l with
  | NumEnd.syntax => rw [ha] at h; cases h
  | .range => rw [ha] at h; cases h
  | .ok u =>
   rw [ha] at h
   simp only at h
   split at h
   ·rename_i hc
    injection h with h
    subst h
    have := atoiAll_bounds ha
    refine ⟨hc.1, this.2, hc.2.1, ?_⟩
    rw [← hc.2.2]
    unfold itoa
    rw [if_neg (by omega)]
   ·cases h
 ·rintro ⟨h0, h1, h2, rfl⟩
  unfold number
  rw [atoiAll_dec _ (by omega)]
  have e : ((v.toNat : Nat) : Int) = v := by omega
  simp only [e]
  rw [if_pos ⟨h0, h2, by unfold itoa; rw [if_neg (by omega)]⟩]
def refNum (acc : Nat) : List UInt8 → Option Nat
 | [] => some acc
 | c :: r => if c.toNat < 48 ∨ 57 < c.toNat ∨ (9223372036854775807 - (c.toNat - 48)) / 10 < acc then none else refNum (10 * acc + (c.toNat - 48)) r
theorem refNum_append : ∀ (xs ys : List UInt8) (acc : Nat), refNum acc (xs ++ ys) = (refNum acc xs).bind fun a => refNum a ys
 | [], ys, acc => rfl
 | c :: r, ys, acc => by
  rw [List.cons_append]
  simp only [refNum]
  split
  ·rfl
  ·exact refNum_append r ys _
theorem refNum_dec (k : Nat) (hk : k < 9223372036854775808) : refNum 0 (decDigits k) = some k := by
 induction k using Nat.strongRecOn with
 | _ k ih =>
  by_cases h : k < 10
  ·rw [decDigits, dif_pos h]
   have e : (UInt8.ofNat (48 + k)).toNat = 48 + k := by rw [UInt8.toNat_ofNat']; omega
   simp only [refNum, e]
   rw [if_neg (by omega)]
   congr 1; omega
  ·rw [decDigits, dif_neg h, refNum_append, ih (k / 10) (by omega) (by omega)]
   have e : (UInt8.ofNat (48 + k % 10)).toNat = 48 + k % 10 := by rw [UInt8.toNat_ofNat']; omega
   simp only [Option.bind_some, refNum, e]
   rw [if_neg (by omega)]
   congr 1; omega
theorem nDigits_le19 (u : Nat) (h : u < 9223372036854775808) : nDigits u ≤ 19 := by
 by_cases hs : nDigits u ≤ 19
 ·exact hs
 ·exfalso
  have key : ∀ (n u : Nat), n + 1 ≤ nDigits u → 1 ≤ n → 10 ^ n ≤ u := by
   intro n
   induction n with
   | zero => intro u _ h; omega
   | succ n ih =>
    intro u hu _
    by_cases hb : u < 10
    ·rw [nDigits_small hb] at hu; omega
    ·rw [nDigits_big hb] at hu
     rcases Nat.eq_zero_or_pos n with rfl | hn
     ·simp; omega
     ·have := ih (u / 10) (by omega) hn
      rw [Nat.pow_succ]
      omega
  have := key 19 u (by omega) (by omega)
  omega
end Go.OctetPlain
namespace Go.Proofs.YtdbgeobolongmaaGreatDoor.Hp
open Go Go.OctetPlain
abbrev Wd := List UInt8
def spl : List UInt8 → List Wd
 | [] => [[]]
 | c :: r => if c = 32 then [] :: spl r else match spl r with
  | w :: ws => (c :: w) :: ws
  | [] => [[c]]
def join : List Wd → List UInt8
 | [] => []
 | [w] => w
 | w :: v :: ws => w ++ 32 :: join (v :: ws)
theorem spl_ne : ∀ l, spl l ≠ []
 | [] => by simp [spl]
 | c :: r => by
  unfold spl
  split
  ·simp
  ·split <;> simp
theorem join_spl : ∀ l, join (spl l) = l
 | [] => rfl
 | c :: r => by
  have ih := join_spl r
  unfold spl
  split
  ·rename_i h
   cases hs : spl r with
   | nil => exact absurd hs (spl_ne r)
   | cons w ws =>
    rw [hs] at ih
    simp only [join, List.nil_append, h]
    rw [ih]
  ·cases hs : spl r with
   | nil => exact absurd hs (spl_ne r)
   | cons w ws =>
    rw [hs] at ih
    cases ws with
    | nil => simp only [join] at ih ⊢; rw [ih]
    | cons v vs => simp only [join, List.cons_append] at ih ⊢; rw [ih]
theorem spl_word : ∀ (w : Wd), (∀ c ∈ w, c ≠ 32) → spl w = [w]
 | [], _ => rfl
 | c :: r, h => by
  have ih := spl_word r fun d hd => h d (List.mem_cons_of_mem _ hd)
  simp [spl, h c List.mem_cons_self, ih]
theorem spl_app : ∀ (w : Wd) (l : List UInt8), (∀ c ∈ w, c ≠ 32) → spl (w ++ 32 :: l) = w :: spl l
 | [], l, _ => by simp [spl]
 | c :: r, l, h => by
  have ih := spl_app r l fun d hd => h d (List.mem_cons_of_mem _ hd)
  simp [spl, h c List.mem_cons_self, ih]
theorem spl_join : ∀ (ws : List Wd), ws ≠ [] → (∀ w ∈ ws, ∀ c ∈ w, c ≠ 32) → spl (join ws) = ws
 | [], h, _ => absurd rfl h
 | [w], _, h => spl_word w (h w List.mem_cons_self)
 | w :: v :: ws, _, h => by
  rw [join, spl_app w _ (h w List.mem_cons_self), spl_join (v :: ws) (by simp) fun u hu => h u (List.mem_cons_of_mem _ hu)]
structure Hop where
 op : Int
 labels : List Int
 port : Int
 backup : Int
 repair : List Int
 pipe : Bool
deriving DecidableEq
def wPush : Wd := [112, 117, 115, 104]
def wSwap : Wd := [115, 119, 97, 112]
def wPop : Wd := [112, 111, 112]
def wHere : Wd := [104, 101, 114, 101]
def wPort : Wd := [112, 111, 114, 116]
def wBackup : Wd := [98, 97, 99, 107, 117, 112]
def wPipe : Wd := [112, 105, 112, 101]
def opW (n : Int) : Wd := if n = 0 then wPush else if n = 1 then wSwap else if n = 2 then wPop else if n = 3 then wHere else []
def opOf (w : Wd) : Option Int := if w = wPush then some 0 else if w = wSwap then some 1 else if w = wPop then some 2 else if w = wHere then some 3 else none
def pushed (n : Int) : Bool := decide (n = 0) || decide (n = 2) || (decide (16 ≤ n) && decide (n ≤ 1048575))
def checkR (h : Hop) : Int :=
 if h.op < 0 ∨ 3 < h.op ∨ (h.op = 1 ∧ h.labels = []) ∨ (1 < h.op ∧ h.labels ≠ []) then 54
 else if 16 < h.labels.length ∨ 16 < h.repair.length then 51
 else if (h.labels.all pushed && h.repair.all pushed) = false then 40
 else if h.port < 0 ∨ 63 < h.port ∨ (h.op = 3 ∧ h.port ≠ 0) ∨ 63 < h.backup ∨ (h.op = 3 ∧ 0 ≤ h.backup) then 50
 else if h.backup < -1 ∨ (h.backup = -1 ∧ h.repair ≠ []) ∨ h.backup = h.port then 54
 else 0
structure Valid (h : Hop) : Prop where
 o0 : 0 ≤ h.op
 o3 : h.op ≤ 3
 l1 : h.op = 1 → h.labels ≠ []
 l2 : 1 < h.op → h.labels = []
 n1 : h.labels.length ≤ 16
 n2 : h.repair.length ≤ 16
 p1 : ∀ n ∈ h.labels, pushed n = true
 p2 : ∀ n ∈ h.repair, pushed n = true
 q0 : 0 ≤ h.port
 q1 : h.port ≤ 63
 q3 : h.op = 3 → h.port = 0
 b0 : -1 ≤ h.backup
 b1 : h.backup ≤ 63
 b3 : h.op = 3 → h.backup < 0
 b4 : h.backup = -1 → h.repair = []
 b5 : h.backup ≠ h.port
theorem check_iff (h : Hop) : checkR h = 0 ↔ Valid h := by
 unfold checkR
 constructor
 ·intro hc
  split at hc
  ·simp at hc
  rename_i c1
  split at hc
  ·simp at hc
  rename_i c2
  split at hc
  ·simp at hc
  rename_i c3
  split at hc
  ·simp at hc
  rename_i c4
  split at hc
  ·simp at hc
  rename_i c5
  simp only [Bool.not_eq_false, Bool.and_eq_true, List.all_eq_true] at c3
  simp only [not_or, not_and] at c1 c2 c4 c5
  refine ⟨by omega, by omega, c1.2.2.1, fun h1 => ?_, by omega, by omega, c3.1, c3.2, by omega, by omega, fun h1 => ?_, by omega, by omega, fun h1 => ?_, fun h1 => ?_, c5.2.2⟩
  ·exact Decidable.not_not.1 (c1.2.2.2 h1)
  ·exact Decidable.not_not.1 (c4.2.2.1 h1)
  ·have := c4.2.2.2.2 h1; omega
  ·exact Decidable.not_not.1 (c5.2.1 h1)
 ·intro v
  have a1 := v.o0
  have a2 := v.o3
  have a3 := v.q0
  have a4 := v.q1
  have a5 := v.b0
  have a6 := v.b1
  have a7 := v.n1
  have a8 := v.n2
  rw [if_neg, if_neg, if_neg, if_neg, if_neg]
  ·rintro (h1 | ⟨h1, h2⟩ | h1)
   ·omega
   ·exact h2 (v.b4 h1)
   ·exact v.b5 h1
  ·rintro (h1 | h1 | ⟨h1, h2⟩ | h1 | ⟨h1, h2⟩)
   ·omega
   ·omega
   ·exact h2 (v.q3 h1)
   ·omega
   ·have := v.b3 h1; omega
  ·simp only [Bool.not_eq_false, Bool.and_eq_true, List.all_eq_true]
   exact ⟨v.p1, v.p2⟩
  ·omega
  ·rintro (h1 | h1 | ⟨h1, h2⟩ | ⟨h1, h2⟩)
   ·omega
   ·omega
   ·exact v.l1 h1 h2
   ·exact h2 (v.l2 h1)
def dec (n : Int) : Wd := Lib.decDigits n.toNat
def showW (h : Hop) : List Wd :=
 [opW h.op] ++ h.labels.map dec ++ (if h.op ≠ 3 then [wPort, dec h.port] else []) ++ (if h.backup ≠ -1 then wBackup :: dec h.backup :: h.repair.map dec else []) ++ (if h.pipe then [wPipe] else [])
def showR (h : Hop) : List UInt8 := join (showW h)
def nums : List Wd → List Int × List Wd
 | [] => ([], [])
 | w :: ws => match number w 1048575 with
  | some n => (n :: (nums ws).1, (nums ws).2)
  | none => ([], w :: ws)
theorem number_dec {n : Int} (h0 : 0 ≤ n) (h1 : n ≤ 1048575) : number (dec n) 1048575 = some n := number_some.2 ⟨h0, by omega, h1, rfl⟩
theorem nums_eq : ∀ ws, ws = (nums ws).1.map dec ++ (nums ws).2
 | [] => rfl
 | w :: ws => by
  unfold nums
  cases hn : number w 1048575 with
  | none => simp
  | some n =>
   have := (number_some.1 hn).2.2.2
   simp only [List.map_cons, List.cons_append]
   rw [← nums_eq ws, this]
   rfl
theorem nums_ok : ∀ ws, ∀ n ∈ (nums ws).1, 0 ≤ n ∧ n ≤ 1048575
 | [], n, h => by simp [nums] at h
 | w :: ws, n, h => by
  unfold nums at h
  cases hn : number w 1048575 with
  | none => rw [hn] at h; simp at h
  | some m =>
   rw [hn] at h
   obtain ⟨h1, -, h3, -⟩ := number_some.1 hn
   rcases List.mem_cons.1 h with rfl | h
   ·exact ⟨h1, h3⟩
   ·exact nums_ok ws n h
theorem nums_app : ∀ (l : List Int) (rest : List Wd), (∀ n ∈ l, 0 ≤ n ∧ n ≤ 1048575) → (nums rest).1 = [] → nums (l.map dec ++ rest) = (l, rest)
 | [], rest, _, hr => by
  have := nums_eq rest
  rw [hr] at this
  simp only [List.map_nil, List.nil_append] at this ⊢
  rw [Prod.ext_iff]
  exact ⟨hr, this.symm⟩
 | n :: l, rest, hl, hr => by
  have hn := hl n List.mem_cons_self
  have ih := nums_app l rest (fun k hk => hl k (List.mem_cons_of_mem _ hk)) hr
  rw [List.map_cons, List.cons_append, nums, number_dec hn.1 hn.2, ih]
theorem nums_stop {w : Wd} {ws : List Wd} (h : number w 1048575 = none) : (nums (w :: ws)).1 = [] := by rw [nums, h]
def partP (op : Int) (r : List Wd) : Int × Bool × List Wd :=
 if op ≠ 3 ∧ r.head? = some wPort then (match (nums r.tail).1 with | [] => (-1, true, (nums r.tail).2) | n :: more => (n, decide (more ≠ []), (nums r.tail).2)) else (0, decide (op ≠ 3), r)
def partB (r : List Wd) : Int × List Int × Bool × List Wd :=
 if r.head? = some wBackup then (match (nums r.tail).1 with | [] => (-1, [], true, (nums r.tail).2) | n :: more => (n, more, false, (nums r.tail).2)) else (-1, [], false, r)
def partC (r : List Wd) : Bool × List Wd := if r.head? = some wPipe then (true, r.tail) else (false, r)
def mk (op : Int) (ws : List Wd) : Hop := ⟨op, (nums ws).1, (partP op (nums ws).2).1, (partB (partP op (nums ws).2).2.2).1, (partB (partP op (nums ws).2).2.2).2.1, (partC (partB (partP op (nums ws).2).2.2).2.2.2).1⟩
def bad (op : Int) (ws : List Wd) : Bool := (partP op (nums ws).2).2.1 || (partB (partP op (nums ws).2).2.2).2.2.1 || decide ((partC (partB (partP op (nums ws).2).2.2).2.2.2).2 ≠ [])
def parseW : List Wd → Option Hop
 | [] => none
 | w :: ws => match opOf w with
  | none => none
  | some op => if bad op ws = true ∨ checkR (mk op ws) ≠ 0 then none else some (mk op ws)
def parseR (s : List UInt8) : Option Hop := parseW (spl s)
theorem dec_no32 (n : Int) : ∀ c ∈ dec n, c ≠ 32 := fun c hc e => by
 have := decDigits_dig _ c hc
 subst e
 simp at this
theorem num_wPort : number wPort 1048575 = none := by
 rw [Option.eq_none_iff_forall_ne_some]
 intro v hv
 have h := (number_some.1 hv).2.2.2
 have := decDigits_dig v.toNat 112 (by rw [← h]; simp [wPort])
 simp at this
theorem num_wBackup : number wBackup 1048575 = none := by
 rw [Option.eq_none_iff_forall_ne_some]
 intro v hv
 have h := (number_some.1 hv).2.2.2
 have := decDigits_dig v.toNat 98 (by rw [← h]; simp [wBackup])
 simp at this
theorem num_wPipe : number wPipe 1048575 = none := by
 rw [Option.eq_none_iff_forall_ne_some]
 intro v hv
 have h := (number_some.1 hv).2.2.2
 have := decDigits_dig v.toNat 112 (by rw [← h]; simp [wPipe])
 simp at this
theorem head_tail {r : List Wd} {w : Wd} (h : r.head? = some w) : r = w :: r.tail := by cases r with | nil => simp at h | cons a b => simp at h; rw [h]; rfl
theorem partP_ok {op : Int} {r : List Wd} (h : (partP op r).2.1 = false) :
  (op ≠ 3 ∧ r = wPort :: dec (partP op r).1 :: (partP op r).2.2 ∧ 0 ≤ (partP op r).1) ∨ (op = 3 ∧ (partP op r).1 = 0 ∧ (partP op r).2.2 = r) := by
 unfold partP at h ⊢
 by_cases hc : op ≠ 3 ∧ r.head? = some wPort
 ·rw [if_pos hc] at h ⊢
  have ht := head_tail hc.2
  have hn := nums_eq r.tail
  have hk := nums_ok r.tail
  cases hl : (nums r.tail).1 with
  | nil => rw [hl] at h; simp at h
  | cons n more =>
   rw [hl] at h hn hk
   simp only [decide_eq_false_iff_not, ne_eq, Decidable.not_not] at h
   subst h
   refine Or.inl ⟨hc.1, ?_, (hk n List.mem_cons_self).1⟩
   simp only
   rw [ht, List.tail_cons]
   congr 1
 ·rw [if_neg hc] at h ⊢
  simp only [decide_eq_false_iff_not, ne_eq, Decidable.not_not] at h
  exact Or.inr ⟨h, rfl, rfl⟩
theorem partB_ok {r : List Wd} (h : (partB r).2.2.1 = false) :
  (r = wBackup :: dec (partB r).1 :: ((partB r).2.1.map dec ++ (partB r).2.2.2) ∧ 0 ≤ (partB r).1) ∨ ((partB r).1 = -1 ∧ (partB r).2.1 = [] ∧ (partB r).2.2.2 = r) := by
 unfold partB at h ⊢
 by_cases hc : r.head? = some wBackup
 ·rw [if_pos hc] at h ⊢
  have ht := head_tail hc
  have hn := nums_eq r.tail
  have hk := nums_ok r.tail
  cases hl : (nums r.tail).1 with
  | nil => rw [hl] at h; simp at h
  | cons n more =>
   rw [hl] at h hn hk
   refine Or.inl ⟨?_, (hk n List.mem_cons_self).1⟩
   simp only
   rw [ht, List.tail_cons]
   congr 1
 ·rw [if_neg hc] at h ⊢
  exact Or.inr ⟨rfl, rfl, rfl⟩
theorem partC_ok {r : List Wd} (h : (partC r).2 = []) : r = if (partC r).1 = true then [wPipe] else [] := by
 unfold partC at h ⊢
 by_cases hc : r.head? = some wPipe
 ·rw [if_pos hc] at h ⊢
  have ht := head_tail hc
  simp only at h
  rw [h] at ht
  simpa using ht
 ·rw [if_neg hc] at h ⊢
  simpa using h
theorem opOf_some {w : Wd} {n : Int} (h : opOf w = some n) : w = opW n ∧ 0 ≤ n ∧ n ≤ 3 := by
 unfold opOf at h
 split at h
 ·cases h; exact ⟨by assumption, by omega, by omega⟩
 split at h
 ·cases h; exact ⟨by assumption, by omega, by omega⟩
 split at h
 ·cases h; exact ⟨by assumption, by omega, by omega⟩
 split at h
 ·cases h; exact ⟨by assumption, by omega, by omega⟩
 ·cases h
theorem opOf_opW {n : Int} (h0 : 0 ≤ n) (h3 : n ≤ 3) : opOf (opW n) = some n := by
 have : n = 0 ∨ n = 1 ∨ n = 2 ∨ n = 3 := by omega
 rcases this with rfl | rfl | rfl | rfl <;> decide
theorem parseW_sound {s : List Wd} {h : Hop} (hp : parseW s = some h) : checkR h = 0 ∧ s = showW h := by
 cases s with
 | nil => cases hp
 | cons w ws =>
  simp only [parseW] at hp
  cases ho : opOf w with
  | none => rw [ho] at hp; cases hp
  | some op =>
   rw [ho] at hp
   simp only at hp
   split at hp
   ·cases hp
   rename_i hc
   cases hp
   simp only [not_or, Bool.not_eq_true, ne_eq, Decidable.not_not] at hc
   obtain ⟨hb, hck⟩ := hc
   refine ⟨hck, ?_⟩
   obtain ⟨hw, h0, h3⟩ := opOf_some ho
   unfold bad at hb
   simp only [Bool.or_eq_false_iff, decide_eq_false_iff_not, ne_eq, Decidable.not_not] at hb
   obtain ⟨⟨hb1, hb2⟩, hb3⟩ := hb
   have e0 := nums_eq ws
   have e1 := partP_ok hb1
   have e2 := partB_ok hb2
   have e3 := partC_ok hb3
   have key : ∀ (L : List Int) (r1 r2 r3 : List Wd) (P B : Int) (R : List Int) (C : Bool), ws = L.map dec ++ r1 → ((op ≠ 3 ∧ r1 = wPort :: dec P :: r2 ∧ 0 ≤ P) ∨ (op = 3 ∧ P = 0 ∧ r2 = r1)) → ((r2 = wBackup :: dec B :: (R.map dec ++ r3) ∧ 0 ≤ B) ∨ (B = -1 ∧ R = [] ∧ r3 = r2)) → (r3 = if C = true then [wPipe] else []) → w :: ws = showW ⟨op, L, P, B, R, C⟩ := by
    intro L r1 r2 r3 P B R C g0 g1 g2 g3
    unfold showW
    simp only
    rw [g0, hw]
    rcases g1 with ⟨g1, g1', -⟩ | ⟨g1, -, g1'⟩ <;> rcases g2 with ⟨g2, g2'⟩ | ⟨g2, g2', g2''⟩
    ·rw [if_pos g1, if_pos (by omega), g1', g2, g3]; simp
    ·rw [if_pos g1, if_neg (by omega), g1', ← g2'', g3]; simp
    ·rw [if_neg (by omega), if_pos (by omega), ← g1', g2, g3]; simp
    ·rw [if_neg (by omega), if_neg (by omega), ← g1', ← g2'', g3]; simp
   exact key _ _ _ _ _ _ _ _ e0 e1 e2 e3
theorem pushed_bd {n : Int} (h : pushed n = true) : 0 ≤ n ∧ n ≤ 1048575 := by
 unfold pushed at h
 simp only [Bool.or_eq_true, Bool.and_eq_true, decide_eq_true_eq] at h
 omega
theorem parseW_show {h : Hop} (v : Valid h) : parseW (showW h) = some h := by
 obtain ⟨op, L, P, B, R, C⟩ := h
 have hck := (check_iff _).2 v
 obtain ⟨o0, o3, l1, l2, n1, n2, p1, p2, q0, q1, q3, b0, b1, b3, b4, b5⟩ := v
 simp only at *
 have hC : (nums (if C = true then [wPipe] else [])).1 = [] := by
  cases C
  ·rfl
  ·simp only [if_true]; exact nums_stop num_wPipe
 have hpc : ∀ x, partC (if x = true then [wPipe] else []) = (x, []) := by intro x; cases x <;> rfl
 have hhb : ∀ x : Bool, (if x = true then [wPipe] else ([] : List Wd)).head? ≠ some wBackup := by intro x; cases x <;> decide
 have hhp : ∀ x : Bool, (if x = true then [wPipe] else ([] : List Wd)).head? ≠ some wPort := by intro x; cases x <;> decide
 obtain ⟨tB, htB⟩ : ∃ tB, tB = (if B ≠ -1 then wBackup :: dec B :: R.map dec else []) ++ (if C = true then [wPipe] else []) := ⟨_, rfl⟩
 have hB : partB tB = (B, R, false, if C = true then [wPipe] else []) := by
  rw [htB]
  by_cases hb : B = -1
  ·rw [if_neg (by simpa using hb), List.nil_append]
   unfold partB
   rw [if_neg (hhb C), b4 hb, hb]
  ·rw [if_pos hb]
   unfold partB
   rw [if_pos (by rfl)]
   have := nums_app (B :: R) (if C = true then [wPipe] else []) (fun n hn => by
    rcases List.mem_cons.1 hn with rfl | hn
    ·omega
    ·exact pushed_bd (p2 n hn)) hC
   simp only [List.cons_append, List.tail_cons]
   rw [show dec B :: (R.map dec ++ if C = true then [wPipe] else []) = (B :: R).map dec ++ (if C = true then [wPipe] else []) from rfl, this]
 have htB1 : (nums tB).1 = [] := by
  rw [htB]
  by_cases hb : B = -1
  ·rw [if_neg (by simpa using hb), List.nil_append]; exact hC
  ·rw [if_pos hb]; exact nums_stop num_wBackup
 obtain ⟨tP, htP⟩ : ∃ tP, tP = (if op ≠ 3 then [wPort, dec P] else []) ++ tB := ⟨_, rfl⟩
 have hP : partP op tP = (P, false, tB) := by
  rw [htP]
  by_cases ho : op = 3
  ·rw [if_neg (by simpa using ho), List.nil_append]
   unfold partP
   rw [if_neg (by simp [ho]), q3 ho]
   simp [ho]
  ·rw [if_pos ho]
   unfold partP
   rw [if_pos ⟨ho, rfl⟩]
   have := nums_app [P] tB (fun n hn => by simp at hn; omega) htB1
   simp only [List.cons_append, List.nil_append, List.tail_cons]
   rw [show dec P :: tB = [P].map dec ++ tB from rfl, this]
   simp
 have htP1 : (nums tP).1 = [] := by
  rw [htP]
  by_cases ho : op = 3
  ·rw [if_neg (by simpa using ho), List.nil_append]; exact htB1
  ·rw [if_pos ho]; exact nums_stop num_wPort
 have hN := nums_app L tP (fun n hn => pushed_bd (p1 n hn)) htP1
 have hs : showW ⟨op, L, P, B, R, C⟩ = opW op :: (L.map dec ++ tP) := by
  unfold showW
  simp only
  rw [htP, htB]
  simp
 have hmk : mk op (L.map dec ++ tP) = ⟨op, L, P, B, R, C⟩ := by
  unfold mk
  rw [hN]
  simp only [hP, hB, hpc]
 have hbad : bad op (L.map dec ++ tP) = false := by
  unfold bad
  rw [hN]
  simp only [hP, hB, hpc]
  rfl
 rw [hs]
 simp only [parseW, opOf_opW o0 o3, hmk, hbad, hck]
 simp
theorem showW_ne (h : Hop) : showW h ≠ [] := by simp [showW]
theorem opW_no32 (n : Int) : ∀ c ∈ opW n, c ≠ 32 := by
 unfold opW
 split
 ·decide
 split
 ·decide
 split
 ·decide
 split
 ·decide
 ·intro c hc; cases hc
theorem showW_no32 (h : Hop) : ∀ w ∈ showW h, ∀ c ∈ w, c ≠ 32 := by
 intro w hw
 unfold showW at hw
 simp only [List.mem_append, List.mem_singleton, List.mem_map] at hw
 rcases hw with (((rfl | ⟨n, -, rfl⟩) | hw) | hw) | hw
 ·exact opW_no32 _
 ·exact dec_no32 n
 ·split at hw
  ·simp only [List.mem_cons, List.not_mem_nil, or_false] at hw
   rcases hw with rfl | rfl
   ·decide
   ·exact dec_no32 _
  ·cases hw
 ·split at hw
  ·simp only [List.mem_cons, List.mem_map] at hw
   rcases hw with rfl | rfl | ⟨n, -, rfl⟩
   ·decide
   ·exact dec_no32 _
   ·exact dec_no32 n
  ·cases hw
 ·split at hw
  ·simp only [List.mem_singleton] at hw; subst hw; decide
  ·cases hw
theorem parseR_iff (s : List UInt8) (h : Hop) : parseR s = some h ↔ checkR h = 0 ∧ showR h = s := by
 unfold parseR
 constructor
 ·intro hp
  obtain ⟨h1, h2⟩ := parseW_sound hp
  exact ⟨h1, by unfold showR; rw [← h2, join_spl]⟩
 ·rintro ⟨h1, rfl⟩
  unfold showR
  rw [spl_join _ (showW_ne h) (showW_no32 h)]
  exact parseW_show ((check_iff h).1 h1)
end Go.Proofs.YtdbgeobolongmaaGreatDoor.Hp
namespace Go.OctetPlain
def dig (c : UInt8) : Int :=
 if 48 ≤ c.toNat ∧ c.toNat ≤ 57 then (c.toNat : Int) - 48
 else if 97 ≤ c.toNat ∧ c.toNat ≤ 102 then (c.toNat : Int) - 97 + 10
 else if 65 ≤ c.toNat ∧ c.toNat ≤ 70 then (c.toNat : Int) - 65 + 10
 else -1
theorem dig_bounds (c : UInt8) : -1 ≤ dig c ∧ dig c ≤ 15 := by
 unfold dig
 split
 ·omega
 ·split
  ·omega
  ·split <;> omega
def unhexFrom (high : Int) (out : List UInt8) : List UInt8 → Option (List UInt8)
 | [] => if 0 ≤ high then none else some out
 | c :: r =>
  if dig c < 0 then none
  else if high < 0 then unhexFrom (dig c) out r
  else unhexFrom (-1) (out ++ [UInt8.ofNat (high.toNat * 16 + (dig c).toNat)]) r
def refUnhex (out : List UInt8) : List UInt8 → Option (List UInt8)
 | [] => some out
 | [_] => none
 | a :: b :: r =>
  if dig a < 0 ∨ dig b < 0 then none
  else refUnhex (out ++ [UInt8.ofNat (16 * (dig a).toNat + (dig b).toNat)]) r
theorem unhexFrom_eq : ∀ (l out : List UInt8), unhexFrom (-1) out l = refUnhex out l
 | [], out => by simp [unhexFrom, refUnhex]
 | [a], out => by
  simp only [unhexFrom, refUnhex]
  by_cases ha : dig a < 0
  ·rw [if_pos ha]
  ·rw [if_neg ha, if_pos (by omega), if_pos (by omega)]
 | a :: b :: r, out => by
  simp only [unhexFrom, refUnhex]
  by_cases ha : dig a < 0
  ·rw [if_pos ha, if_pos (Or.inl ha)]
  ·rw [if_neg ha, if_pos (by omega)]
   by_cases hb : dig b < 0
   ·rw [if_pos hb, if_pos (Or.inr hb)]
   ·rw [if_neg hb, if_neg (by omega), if_neg (by omega), unhexFrom_eq r, Nat.mul_comm]
def letter (n : Nat) : UInt8 := if n < 10 then UInt8.ofNat (48 + n) else UInt8.ofNat (87 + n)
theorem dig_letter (n : Nat) (h : n < 16) : dig (letter n) = n := by
 unfold letter dig
 split
 ·have e : (UInt8.ofNat (48 + n)).toNat = 48 + n := by rw [UInt8.toNat_ofNat']; omega
  rw [e, if_pos (by omega)]; omega
 ·have e : (UInt8.ofNat (87 + n)).toNat = 87 + n := by rw [UInt8.toNat_ofNat']; omega
  rw [e, if_neg (by omega), if_pos (by omega)]; omega
def hex : List UInt8 → List UInt8
 | [] => []
 | c :: r => letter (c.toNat / 16) :: letter (c.toNat % 16) :: hex r
end Go.OctetPlain
