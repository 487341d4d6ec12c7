/- Part of the proof: contracts of the functions that the statements of layer 32 reach. -/
import Derived.Lib.SplitLaws
import Derived.Test.YtdbgeobolongmaaGreatDoorV01
set_option linter.unusedVariables false
set_option linter.unusedSimpArgs false
namespace Go.ColonPlain
open Go.OctetPlain Go.Lib
def splitC (d : UInt8) : List UInt8 → List (List UInt8)
 | [] => [[]]
 | c :: r => if c = d then [] :: splitC d r else (c :: (splitC d r).headD []) :: (splitC d r).tail
theorem splitC_ne (d : UInt8) (l : List UInt8) : splitC d l ≠ [] := by
 cases l with
 | nil => simp [splitC]
 | cons c r => unfold splitC; split <;> simp
theorem splitC_no {d : UInt8} : ∀ {l : List UInt8}, d ∉ l → splitC d l = [l]
 | [], _ => rfl
 | c :: r, h => by
  have h1 : ¬ c = d := fun e => h (by simp [e])
  have h2 : d ∉ r := fun e => h (by simp [e])
  rw [splitC, if_neg h1, splitC_no h2]
  rfl
theorem splitC_app {d : UInt8} : ∀ {a : List UInt8} (b : List UInt8), d ∉ a → splitC d (a ++ d :: b) = a :: splitC d b
 | [], b, _ => by rw [List.nil_append, splitC, if_pos rfl]
 | c :: r, b, h => by
  have h1 : ¬ c = d := fun e => h (by simp [e])
  have h2 : d ∉ r := fun e => h (by simp [e])
  rw [List.cons_append, splitC, if_neg h1, splitC_app b h2]
  rfl
theorem index_no {d : UInt8} : ∀ {l : List UInt8}, d ∉ l → index l [d] = -1
 | [], _ => by simp [index]
 | c :: r, h => by
  have h1 : ¬ c = d := fun e => h (by simp [e])
  have h2 : d ∉ r := fun e => h (by simp [e])
  rw [index, index_no h2]
  simp [List.isPrefixOf, Ne.symm h1]
theorem index_app {d : UInt8} : ∀ {a : List UInt8} (b : List UInt8), d ∉ a → index (a ++ d :: b) [d] = a.length
 | [], b, _ => by simp [index, List.isPrefixOf]
 | c :: r, b, h => by
  have h1 : ¬ c = d := fun e => h (by simp [e])
  have h2 : d ∉ r := fun e => h (by simp [e])
  rw [List.cons_append, index, index_app b h2]
  simp [List.isPrefixOf, Ne.symm h1]
theorem splitK_eq (d : UInt8) : ∀ (k : Nat) (s : List UInt8), s.count d ≤ k → splitK [d] 0 k s = splitC d s
 | 0, s, h => by
  have : d ∉ s := fun e => by have := List.count_pos_iff.2 e; omega
  rw [splitC_no this]; rfl
 | k + 1, s, h => by
  unfold splitK
  by_cases hd : d ∈ s
  ·obtain ⟨a, b, rfl, ha⟩ := List.eq_append_cons_of_mem hd
   rw [index_app b ha, splitC_app b ha]
   have hc : b.count d ≤ k := by
    rw [List.count_append, List.count_cons_self] at h; omega
   rw [if_neg (by simp)]
   simp only [Nat.add_zero, Int.toNat_natCast, List.take_left, List.length_cons, List.length_nil, Nat.zero_add]
   rw [List.drop_append, List.drop_eq_nil_of_le (by omega), List.nil_append, show a.length + 1 - a.length = 1 by omega, List.drop_one, List.tail_cons, splitK_eq d k b hc]
  ·rw [index_no hd, splitC_no hd]; rfl
theorem split_eq (d : UInt8) (s : List UInt8) : splitK [d] 0 (count s [d]) s = splitC d s := splitK_eq d _ s (by rw [count_one]; exact Nat.le_refl _)
theorem split_count (d : UInt8) (s : List UInt8) : count s [d] + 1 = (splitC d s).length := by
 rw [count_one]
 induction s with
 | nil => rfl
 | cons c r ih =>
  unfold splitC
  split
  ·rename_i h; subst h; rw [List.count_cons_self, List.length_cons, ih]
  ·rename_i h
   rw [List.count_cons_of_ne (by simpa using h), List.length_cons, List.length_tail, ih]
   have := splitC_ne d r
   have : (splitC d r).length ≠ 0 := fun e => this (List.eq_nil_of_length_eq_zero e)
   omega
theorem splitC_le (d : UInt8) : ∀ (s : List UInt8), ∀ p ∈ splitC d s, p.length ≤ s.length
 | [], p, h => by simp only [splitC, List.mem_singleton] at h; subst h; exact Nat.le_refl _
 | c :: r, p, h => by
  unfold splitC at h
  split at h
  ·rcases List.mem_cons.1 h with rfl | h
   ·exact Nat.zero_le _
   ·have := splitC_le d r p h; simp; omega
  ·rcases List.mem_cons.1 h with rfl | h
   ·have hne := splitC_ne d r
    have := splitC_le d r ((splitC d r).headD []) (by cases hs : splitC d r with
     | nil => exact absurd hs hne
     | cons x y => simp)
    simp only [List.length_cons]; omega
   ·have := splitC_le d r p (List.mem_of_mem_tail h); simp; omega
def groupFrom (n signs : Nat) : List UInt8 → Option Nat
 | [] => if 0 < signs then some n else none
 | c :: r => if dig c < 0 ∨ 4 < signs + 1 then none else groupFrom (n * 16 + (dig c).toNat) (signs + 1) r
def group (l : List UInt8) : Option Nat := groupFrom 0 0 l
theorem groupFrom_lt : ∀ (l : List UInt8) (n s m : Nat), s ≤ 4 → n < 16 ^ s → groupFrom n s l = some m → m < 65536
 | [], n, s, m, h0, h1, h => by
  simp only [groupFrom] at h
  split at h
  ·cases h
   have : 16 ^ s ≤ 16 ^ 4 := Nat.pow_le_pow_right (by omega) h0
   omega
  ·cases h
 | c :: r, n, s, m, h0, h1, h => by
  unfold groupFrom at h
  split at h
  ·cases h
  ·have := dig_bounds c
   refine groupFrom_lt r _ (s + 1) m (by omega) ?_ h
   rw [Nat.pow_succ]; omega
theorem group_lt {l : List UInt8} {m : Nat} (h : group l = some m) : m < 65536 := groupFrom_lt l 0 0 m (by omega) (by omega) h
def hexN (n : Nat) : List UInt8 :=
 if n < 16 then [letter n]
 else if n < 256 then [letter (n / 16), letter (n % 16)]
 else if n < 4096 then [letter (n / 256), letter (n / 16 % 16), letter (n % 16)]
 else [letter (n / 4096), letter (n / 256 % 16), letter (n / 16 % 16), letter (n % 16)]
theorem group_hexN {n : Nat} (h : n < 65536) : group (hexN n) = some n := by
 unfold hexN group
 split
 ·simp only [groupFrom, dig_letter n (by omega)]
  simp
 ·split
  ·simp only [groupFrom, dig_letter (n / 16) (by omega), dig_letter (n % 16) (by omega)]
   simp; omega
  ·split
   ·simp only [groupFrom, dig_letter (n / 256) (by omega), dig_letter (n / 16 % 16) (by omega), dig_letter (n % 16) (by omega)]
    simp; omega
   ·simp only [groupFrom, dig_letter (n / 4096) (by omega), dig_letter (n / 256 % 16) (by omega), dig_letter (n / 16 % 16) (by omega), dig_letter (n % 16) (by omega)]
    simp; omega
theorem hexN_ne (n : Nat) : hexN n ≠ [] := by
 unfold hexN
 repeat' split
 all_goals simp
theorem hexN_length (n : Nat) : 1 ≤ (hexN n).length ∧ (hexN n).length ≤ 4 := by
 unfold hexN
 repeat' split
 all_goals simp
theorem letter_low {n : Nat} (h : n < 16) : letter n ≠ 58 ∧ ¬ (65 ≤ (letter n).toNat ∧ (letter n).toNat ≤ 70) := by
 have : ∀ n : Fin 16, letter n ≠ 58 ∧ ¬ (65 ≤ (letter n).toNat ∧ (letter n).toNat ≤ 70) := by decide
 exact this ⟨n, h⟩
theorem hexN_low {n : Nat} (h : n < 65536) : ∀ c ∈ hexN n, c ≠ 58 ∧ ¬ (65 ≤ c.toNat ∧ c.toNat ≤ 70) := by
 intro c hc
 unfold hexN at hc
 repeat' split at hc
 all_goals
  simp only [List.mem_cons, List.not_mem_nil, or_false] at hc
  rcases hc with rfl | rfl | rfl | rfl <;> exact letter_low (by omega)
def joinF (f : Nat → List UInt8) : List Nat → List UInt8
 | [] => []
 | [n] => f n
 | n :: m :: r => f n ++ 58 :: joinF f (m :: r)
structure Good (f : Nat → List UInt8) : Prop where
 ne : ∀ n, n < 65536 → f n ≠ []
 no : ∀ n, n < 65536 → ∀ c ∈ f n, c ≠ 58
 group : ∀ n, n < 65536 → group (f n) = some n
theorem joinF_ne {f : Nat → List UInt8} (G : Good f) : ∀ {l : List Nat}, (∀ n ∈ l, n < 65536) → l ≠ [] → joinF f l ≠ []
 | [], _, h => absurd rfl h
 | [n], h, _ => G.ne n (h n (by simp))
 | n :: m :: r, _, _ => by simp [joinF]
theorem joinF_split {f : Nat → List UInt8} (G : Good f) : ∀ {l : List Nat}, l ≠ [] → (∀ n ∈ l, n < 65536) → splitC 58 (joinF f l) = l.map f
 | [], h, _ => absurd rfl h
 | [n], _, h => splitC_no fun hc => G.no n (h n (by simp)) 58 hc rfl
 | n :: m :: r, _, h => by
  rw [joinF, splitC_app _ (fun hc => G.no n (h n (by simp)) 58 hc rfl), joinF_split G (by simp) (fun k hk => h k (by simp at hk ⊢; right; exact hk))]
  rfl
theorem joinF_le {f : Nat → List UInt8} (hf : ∀ n, 1 ≤ (f n).length ∧ (f n).length ≤ 4) : ∀ (l : List Nat), (joinF f l).length ≤ 5 * l.length - 1 ∧ l.length ≤ (joinF f l).length
 | [] => by simp [joinF]
 | [n] => by have := hf n; simp [joinF]; omega
 | n :: m :: r => by
  have h1 := joinF_le hf (m :: r)
  have h2 := hf n
  rw [joinF]
  simp only [List.length_append, List.length_cons] at h1 ⊢
  omega
theorem goodN : Good hexN := ⟨fun n _ => hexN_ne n, fun n h c hc => (hexN_low h c hc).1, fun n h => group_hexN h⟩
def Tame : List UInt8 → Prop
 | [] => True
 | [c] => c ≠ 58
 | c :: d :: r => (c = 58 → d ≠ 58) ∧ Tame (d :: r)
theorem tame_index : ∀ {u : List UInt8} (x : List UInt8), Tame u → index (u ++ 58 :: 58 :: x) [58, 58] = u.length
 | [], x, _ => by simp [index, List.isPrefixOf]
 | [c], x, h => by
  have h' : ¬ c = 58 := h
  simp [index, List.isPrefixOf, Ne.symm h']
 | c :: d :: r, x, h => by
  have ih := tame_index x h.2
  rw [List.cons_append] at ih
  rw [List.cons_append, List.cons_append, index, ih]
  have hp : List.isPrefixOf [58, 58] (c :: d :: (r ++ 58 :: 58 :: x)) = false := by
   have := h.1
   simp only [List.isPrefixOf, Bool.and_eq_false_iff, beq_eq_false_iff_ne, ne_eq, Bool.and_true]
   by_cases hc : c = 58
   ·right; exact fun e => this hc e.symm
   ·left; exact fun e => hc e.symm
  rw [hp]
  simp
  omega
theorem tame_no : ∀ {u : List UInt8}, Tame u → index u [58, 58] = -1
 | [], _ => by simp [index]
 | [c], h => by simp [index, List.isPrefixOf]
 | c :: d :: r, h => by
  have ih := tame_no h.2
  rw [index, ih]
  have hp : List.isPrefixOf [58, 58] (c :: d :: r) = false := by
   have := h.1
   simp only [List.isPrefixOf, Bool.and_eq_false_iff, beq_eq_false_iff_ne, ne_eq, Bool.and_true]
   by_cases hc : c = 58
   ·right; exact fun e => this hc e.symm
   ·left; exact fun e => hc e.symm
  rw [hp]
  rfl
theorem tame_plain : ∀ {u : List UInt8}, (∀ c ∈ u, c ≠ 58) → Tame u
 | [], _ => trivial
 | [c], h => h c (by simp)
 | c :: d :: r, h => ⟨fun e => absurd e (h c (by simp)), tame_plain fun x hx => h x (by simp at hx ⊢; right; exact hx)⟩
theorem tame_app : ∀ {u v : List UInt8}, Tame u → Tame v → v.headD 0 ≠ 58 → v ≠ [] → u ≠ [] → Tame (u ++ 58 :: v)
 | [], _, _, _, _, _, h => absurd rfl h
 | [c], v, h, hv, h1, h2, _ => by
  have hc : c ≠ 58 := h
  cases v with
  | nil => exact absurd rfl h2
  | cons a b => exact ⟨fun e => absurd e hc, fun _ => h1, hv⟩
 | c :: d :: r, v, h, hv, h1, h2, _ => ⟨h.1, tame_app h.2 hv h1 h2 (by simp)⟩
theorem joinF_tame {f : Nat → List UInt8} (G : Good f) : ∀ {l : List Nat}, (∀ n ∈ l, n < 65536) → Tame (joinF f l) ∧ (l ≠ [] → (joinF f l).headD 0 ≠ 58)
 | [], _ => ⟨trivial, fun h => absurd rfl h⟩
 | [n], h => by
  have hl := G.no n (h n (by simp))
  refine ⟨tame_plain fun c hc => hl c hc, fun _ => ?_⟩
  cases hx : f n with
  | nil => exact absurd hx (G.ne n (h n (by simp)))
  | cons a b => rw [hx] at hl; simp only [joinF, hx, List.headD_cons]; exact hl a (by simp)
 | n :: m :: r, h => by
  have hl := G.no n (h n (by simp))
  have hr : ∀ k ∈ m :: r, k < 65536 := fun k hk => h k (by simp at hk ⊢; right; exact hk)
  obtain ⟨h1, h2⟩ := joinF_tame G hr
  have hne := G.ne n (h n (by simp))
  refine ⟨tame_app (tame_plain fun c hc => hl c hc) h1 (h2 (by simp)) (joinF_ne G hr (by simp)) hne, fun _ => ?_⟩
  cases hx : f n with
  | nil => exact absurd hx hne
  | cons a b => rw [hx] at hl; simp only [joinF, hx, List.cons_append, List.headD_cons]; exact hl a (by simp)
end Go.ColonPlain
namespace Go.ColonPlain
open Go.OctetPlain Go.Lib
def dotParts (out : List UInt8) : List (List UInt8) → Option (List UInt8)
 | [] => if out.length = 4 then some out else none
 | p :: ps => match number p 255 with
  | none => none
  | some n => if out.length = 4 then none else dotParts (out ++ [UInt8.ofNat n.toNat]) ps
def dotted (l : List UInt8) : Option (List UInt8) := dotParts [] (splitC 46 l)
theorem dotParts_length : ∀ (ps : List (List UInt8)) (out a : List UInt8), dotParts out ps = some a → a.length = 4
 | [], out, a, h => by
  simp only [dotParts] at h
  split at h
  ·cases h; assumption
  ·cases h
 | p :: ps, out, a, h => by
  simp only [dotParts] at h
  split at h
  ·cases h
  ·split at h
   ·cases h
   ·exact dotParts_length ps _ a h
def rowParts (last : Bool) (out : List Nat) : List (List UInt8) → Option (List Nat)
 | [] => some out
 | p :: ps => match group p with
  | some n => rowParts last (out ++ [n]) ps
  | none => match dotted p with
   | some a => if last = true ∧ ps = [] then some (out ++ [256 * (a.getD 0 0).toNat + (a.getD 1 0).toNat, 256 * (a.getD 2 0).toNat + (a.getD 3 0).toNat]) else none
   | none => none
def row (last : Bool) (l : List UInt8) : Option (List Nat) := if l = [] then some [] else rowParts last [] (splitC 58 l)
theorem rowParts_f {f : Nat → List UInt8} (G : Good f) (last : Bool) : ∀ (l out : List Nat) (ps : List (List UInt8)), (∀ n ∈ l, n < 65536) → rowParts last out (l.map f ++ ps) = rowParts last (out ++ l) ps
 | [], out, ps, _ => by simp
 | n :: r, out, ps, h => by
  rw [List.map_cons, List.cons_append, rowParts, G.group n (h n (by simp))]
  simp only
  rw [rowParts_f G last r (out ++ [n]) ps (fun k hk => h k (by simp; right; exact hk)), List.append_assoc, List.singleton_append]
theorem row_join {f : Nat → List UInt8} (G : Good f) (last : Bool) {l : List Nat} (h : ∀ n ∈ l, n < 65536) : row last (joinF f l) = some l := by
 cases hl : l with
 | nil => rfl
 | cons n r =>
  rw [← hl]
  have hne : l ≠ [] := by rw [hl]; simp
  unfold row
  rw [if_neg (joinF_ne G h hne), joinF_split G hne h]
  have := rowParts_f G last l [] [] h
  rw [List.append_nil] at this
  rw [this]
  rfl
def groupsOf : List UInt8 → List Nat
 | a :: b :: r => (256 * a.toNat + b.toNat) :: groupsOf r
 | _ => []
def ints (l : List Nat) : List Int := l.map fun n => Int.ofNat n
def of : List Int → Option (List UInt8)
 | [] => some []
 | n :: r => if n < 0 ∨ 65535 < n then none else (of r).map fun a => UInt8.ofNat (n.toNat / 256) :: UInt8.ofNat (n.toNat % 256) :: a
theorem groups_lt : ∀ (a : List UInt8), ∀ n ∈ groupsOf a, n < 65536
 | [], n, h => by simp [groupsOf] at h
 | [_], n, h => by simp [groupsOf] at h
 | a :: b :: r, n, h => by
  have ha := a.toNat_lt
  have hb := b.toNat_lt
  rcases List.mem_cons.1 h with rfl | h
  ·omega
  ·exact groups_lt r n h
theorem groups_length : ∀ (k : Nat) (a : List UInt8), a.length = 2 * k → (groupsOf a).length = k
 | 0, a, h => by
  obtain rfl : a = [] := List.eq_nil_of_length_eq_zero (by omega)
  rfl
 | k + 1, a, h => by
  match a, h with
  | a :: b :: r, h =>
   simp only [groupsOf, List.length_cons]
   rw [groups_length k r (by simp at h; omega)]
theorem of_groups : ∀ (k : Nat) (a : List UInt8), a.length = 2 * k → of (ints (groupsOf a)) = some a
 | 0, a, h => by
  obtain rfl : a = [] := List.eq_nil_of_length_eq_zero (by omega)
  rfl
 | k + 1, a, h => by
  match a, h with
  | a :: b :: r, h =>
   have ha := a.toNat_lt
   have hb := b.toNat_lt
   have ih := of_groups k r (by simp at h; omega)
   simp only [ints] at ih
   simp only [groupsOf, ints, List.map_cons, of]
   rw [if_neg (by simp only [Int.ofNat_eq_natCast]; omega), ih]
   have e1 : UInt8.ofNat (((Int.ofNat (256 * a.toNat + b.toNat)).toNat) / 256) = a := by
    apply UInt8.toNat_inj.1; rw [UInt8.toNat_ofNat', Int.ofNat_eq_natCast]; omega
   have e2 : UInt8.ofNat (((Int.ofNat (256 * a.toNat + b.toNat)).toNat) % 256) = b := by
    apply UInt8.toNat_inj.1; rw [UInt8.toNat_ofNat', Int.ofNat_eq_natCast]; omega
   rw [e1, e2]
   rfl
theorem groups_of : ∀ (l : List Int) (a : List UInt8), of l = some a → ints (groupsOf a) = l
 | [], a, h => by cases h; rfl
 | n :: r, a, h => by
  unfold of at h
  split at h
  ·cases h
  ·rename_i hn
   cases hr : of r with
   | none => rw [hr] at h; cases h
   | some b =>
    rw [hr] at h
    cases h
    have ih := groups_of r b hr
    simp only [ints] at ih
    simp only [groupsOf, ints, List.map_cons]
    rw [ih]
    congr 1
    rw [UInt8.toNat_ofNat', UInt8.toNat_ofNat', Int.ofNat_eq_natCast]
    omega
theorem of_length : ∀ (l : List Int) (a : List UInt8), of l = some a → a.length = 2 * l.length
 | [], a, h => by cases h; rfl
 | n :: r, a, h => by
  unfold of at h
  split at h
  ·cases h
  ·cases hr : of r with
   | none => rw [hr] at h; cases h
   | some b =>
    rw [hr] at h
    cases h
    have := of_length r b hr
    simp only [List.length_cons]
    omega
def runFrom (i b f t : Nat) : List Bool → Nat × Nat
 | [] => (f, t)
 | z :: r =>
  let b' := if z then b else i + 1
  if 1 < i + 1 - b' ∧ t - f < i + 1 - b' then runFrom (i + 1) b' b' (i + 1) r else runFrom (i + 1) b' f t r
def zs (l : List Nat) : List Bool := l.map fun n => decide (n = 0)
def run (l : List Nat) : Nat × Nat := runFrom 0 0 0 0 (zs l)
theorem runFrom_spec (l : List Bool) : ∀ (r : List Bool) (i b f t : Nat), l.drop i = r → i ≤ l.length → b ≤ i → (∀ j, b ≤ j → j < i → l[j]? = some true) → f ≤ t → t ≤ i → (f = t ∨ f + 2 ≤ t) → (∀ j, f ≤ j → j < t → l[j]? = some true) →
  (runFrom i b f t r).1 ≤ (runFrom i b f t r).2 ∧ (runFrom i b f t r).2 ≤ l.length ∧ ((runFrom i b f t r).1 = (runFrom i b f t r).2 ∨ (runFrom i b f t r).1 + 2 ≤ (runFrom i b f t r).2) ∧ ∀ j, (runFrom i b f t r).1 ≤ j → j < (runFrom i b f t r).2 → l[j]? = some true
 | [], i, b, f, t, _, h1, _, _, h4, h5, h6, h7 => ⟨h4, by simp only [runFrom]; omega, h6, h7⟩
 | z :: r, i, b, f, t, hd, h1, h2, h3, h4, h5, h6, h7 => by
  have hi : i < l.length := by
   rcases Nat.lt_or_ge i l.length with h | h
   ·exact h
   ·rw [List.drop_eq_nil_of_le h] at hd; cases hd
  have hz : l[i]? = some z := by
   rw [List.drop_eq_getElem_cons hi] at hd
   rw [List.getElem?_eq_getElem hi]
   cases hd; rfl
  have hr : l.drop (i + 1) = r := by
   rw [List.drop_eq_getElem_cons hi] at hd
   cases hd; rfl
  have hb3 : ∀ j, (if z = true then b else i + 1) ≤ j → j < i + 1 → l[j]? = some true := by
   intro j hj1 hj2
   cases z with
   | false => simp at hj1; omega
   | true =>
    simp at hj1
    rcases Nat.lt_or_ge j i with h | h
    ·exact h3 j hj1 h
    ·obtain rfl : j = i := by omega
     exact hz
  have hb2 : (if z = true then b else i + 1) ≤ i + 1 := by split <;> omega
  unfold runFrom
  simp only
  generalize (if z = true then b else i + 1) = b' at hb3 hb2 ⊢
  split
  ·rename_i hc
   exact runFrom_spec l r (i + 1) _ _ _ hr hi hb2 hb3 hb2 (Nat.le_refl _) (Or.inr (by omega)) hb3
  ·exact runFrom_spec l r (i + 1) _ f t hr hi hb2 hb3 h4 (by omega) h6 h7
def shown (l : List Nat) : List UInt8 := if (run l).1 = (run l).2 then joinF hexN l else joinF hexN (l.take (run l).1) ++ 58 :: 58 :: joinF hexN (l.drop (run l).2)
def show_ (a : List UInt8) : List UInt8 := shown (groupsOf a)
def parse (s : List UInt8) : Option (List UInt8) :=
 match row (!(cut s [58, 58]).2.2) (cut s [58, 58]).1, row true (cut s [58, 58]).2.1 with
 | some a, some b => if ((cut s [58, 58]).2.2 = true ∧ 7 < a.length + b.length) ∨ ((cut s [58, 58]).2.2 = false ∧ a.length + b.length ≠ 8) then none else of (ints (a ++ List.replicate (8 - a.length - b.length) 0 ++ b))
 | _, _ => none
theorem cut_tame {u : List UInt8} (h : Tame u) : cut u [58, 58] = (u, [], false) := by
 unfold cut; rw [tame_no h, if_neg (by omega)]
theorem cut_at {u : List UInt8} (x : List UInt8) (h : Tame u) : cut (u ++ 58 :: 58 :: x) [58, 58] = (u, x, true) := by
 unfold cut
 rw [tame_index x h, if_pos (by omega)]
 simp only [Int.toNat_natCast, List.take_left, List.length_cons, List.length_nil]
 rw [List.drop_append, List.drop_eq_nil_of_le (by omega), List.nil_append, show u.length + (0 + 1 + 1) - u.length = 2 by omega]
 rfl
theorem parse_join {f : Nat → List UInt8} (G : Good f) {a : List UInt8} (h : a.length = 16) : parse (joinF f (groupsOf a)) = some a := by
 have hlt := groups_lt a
 have hl := groups_length 8 a (by omega)
 unfold parse
 rw [cut_tame (joinF_tame G hlt).1]
 simp only
 rw [row_join G _ hlt]
 simp only [row, if_true]
 rw [if_neg (by simp; omega), List.length_nil, hl]
 simp only [Nat.sub_zero, Nat.sub_self, List.replicate_zero, List.append_nil]
 exact of_groups 8 a (by omega)
theorem parse_show {a : List UInt8} (h : a.length = 16) : parse (show_ a) = some a := by
 have hlt := groups_lt a
 have hl := groups_length 8 a (by omega)
 have hzl : (zs (groupsOf a)).length = 8 := by simp [zs, hl]
 obtain ⟨r1, r2, r3, r4⟩ := runFrom_spec (zs (groupsOf a)) (zs (groupsOf a)) 0 0 0 0 rfl (by omega) (Nat.le_refl _) (fun j _ hj => by omega) (Nat.le_refl _) (Nat.le_refl _) (Or.inl rfl) (fun j _ hj => by omega)
 have er : runFrom 0 0 0 0 (zs (groupsOf a)) = run (groupsOf a) := rfl
 rw [er] at r1 r2 r3 r4
 unfold show_ shown
 split
 ·exact parse_join goodN h
 ·rename_i hne
  generalize run (groupsOf a) = q at r1 r2 r3 r4 hne ⊢
  obtain ⟨f, t⟩ := q
  simp only at r1 r2 r3 r4 hne ⊢
  have hA : ∀ n ∈ (groupsOf a).take f, n < 65536 := fun n hn => hlt n (List.mem_of_mem_take hn)
  have hB : ∀ n ∈ (groupsOf a).drop t, n < 65536 := fun n hn => hlt n (List.mem_of_mem_drop hn)
  unfold parse
  rw [cut_at _ (joinF_tame goodN hA).1]
  simp only
  rw [row_join goodN _ hA, row_join goodN _ hB]
  simp only
  have hla : ((groupsOf a).take f).length = f := by rw [List.length_take]; omega
  have hlb : ((groupsOf a).drop t).length = 8 - t := by rw [List.length_drop]; omega
  rw [if_neg (by rw [hla, hlb]; simp; omega), hla, hlb]
  have hrep : (groupsOf a).take f ++ List.replicate (8 - f - (8 - t)) 0 ++ (groupsOf a).drop t = groupsOf a := by
   apply List.ext_getElem?
   intro j
   rcases Nat.lt_or_ge j f with hj | hj
   ·rw [List.append_assoc, List.getElem?_append_left (by omega), List.getElem?_take, if_pos hj]
   ·rcases Nat.lt_or_ge j t with hj2 | hj2
    ·rw [List.append_assoc, List.getElem?_append_right (by omega), List.getElem?_append_left (by rw [List.length_replicate]; omega), List.getElem?_replicate, if_pos (by omega)]
     have := r4 j hj hj2
     unfold zs at this
     rw [List.getElem?_map] at this
     cases hx : (groupsOf a)[j]? with
     | none => rw [hx] at this; cases this
     | some x => rw [hx] at this; simp at this; rw [this]
    ·rw [List.getElem?_append_right (by rw [List.length_append, List.length_replicate]; omega), List.length_append, List.length_replicate, hla, List.getElem?_drop]
     congr 1
     omega
  rw [hrep]
  exact of_groups 8 a (by omega)
theorem show_le {a : List UInt8} (h : a.length = 16) : 2 ≤ (show_ a).length ∧ (show_ a).length ≤ 39 := by
 have hl := groups_length 8 a (by omega)
 have hzl : (zs (groupsOf a)).length = 8 := by simp [zs, hl]
 obtain ⟨r1, r2, r3, r4⟩ := runFrom_spec (zs (groupsOf a)) (zs (groupsOf a)) 0 0 0 0 rfl (by omega) (Nat.le_refl _) (fun j _ hj => by omega) (Nat.le_refl _) (Nat.le_refl _) (Or.inl rfl) (fun j _ hj => by omega)
 have er : runFrom 0 0 0 0 (zs (groupsOf a)) = run (groupsOf a) := rfl
 rw [er] at r1 r2 r3 r4
 unfold show_ shown
 split
 ·have := joinF_le hexN_length (groupsOf a); omega
 ·rename_i hne
  have h1 := joinF_le hexN_length ((groupsOf a).take (run (groupsOf a)).1)
  have h2 := joinF_le hexN_length ((groupsOf a).drop (run (groupsOf a)).2)
  rw [List.length_take] at h1
  rw [List.length_drop] at h2
  simp only [List.length_append, List.length_cons]
  omega
end Go.ColonPlain
namespace Go.ColonPlain
open Go.OctetPlain Go.Lib
theorem splitC_pre {d : UInt8} : ∀ {x : List UInt8} (l : List UInt8), d ∉ x → splitC d (x ++ l) = (x ++ (splitC d l).headD []) :: (splitC d l).tail
 | [], l, _ => by
  have := splitC_ne d l
  rw [List.nil_append, List.nil_append]
  cases h : splitC d l with
  | nil => exact absurd h this
  | cons a b => rfl
 | c :: r, l, h => by
  have h1 : ¬ c = d := fun e => h (by simp [e])
  have h2 : d ∉ r := fun e => h (by simp [e])
  rw [List.cons_append, splitC, if_neg h1, splitC_pre l h2]
  rfl
def dotScan (out : List UInt8) (n signs : Nat) : List UInt8 → Option (List UInt8)
 | [] => if signs = 0 ∨ out.length = 4 then none else if out.length + 1 = 4 then some (out ++ [UInt8.ofNat n]) else none
 | c :: r =>
  if c.toNat = 46 then if signs = 0 ∨ out.length = 4 then none else dotScan (out ++ [UInt8.ofNat n]) 0 0 r
  else if c.toNat < 48 ∨ 57 < c.toNat ∨ (0 < signs ∧ n = 0) then none
  else if 255 < 10 * n + (c.toNat - 48) then none
  else dotScan out (10 * n + (c.toNat - 48)) (signs + 1) r
theorem dec_lt' {m : Nat} (h : m < 10) : decDigits m = [UInt8.ofNat (48 + m)] := by rw [decDigits, dif_pos h]
theorem dec_ge' {m : Nat} (h : ¬ m < 10) : decDigits m = decDigits (m / 10) ++ [UInt8.ofNat (48 + m % 10)] := by rw [decDigits, dif_neg h]
theorem dec_dot (n : Nat) : (46 : UInt8) ∉ decDigits n := fun h => by have := decDigits_dig n 46 h; simp at this
theorem number_dec {n : Nat} (h : n ≤ 255) : number (decDigits n) 255 = some (n : Int) := number_some.2 ⟨by omega, by omega, by omega, by simp⟩
theorem number_nil : number [] 255 = none := by
 cases h : number [] 255 with
 | none => rfl
 | some v => exact absurd (number_some.1 h).2.2.2.symm (decDigits_ne _)
theorem dec_head : ∀ (v : Nat), 1 ≤ v → (decDigits v).headD 0 ≠ 48 := by
 intro v
 induction v using Nat.strongRecOn with
 | _ v ih =>
  intro h1
  by_cases h : v < 10
  ·rw [dec_lt' h]
   simp only [List.headD_cons]
   intro e
   have := congrArg UInt8.toNat e
   rw [UInt8.toNat_ofNat'] at this
   simp at this
   omega
  ·rw [dec_ge' h]
   have := ih (v / 10) (by omega) (by omega)
   cases hd : decDigits (v / 10) with
   | nil => exact absurd hd (decDigits_ne _)
   | cons a b => rw [hd] at this; simpa using this
theorem refNum_ge : ∀ (l : List UInt8) (acc k : Nat), refNum acc l = some k → acc ≤ k
 | [], acc, k, h => by simp only [refNum] at h; cases h; exact Nat.le_refl _
 | c :: r, acc, k, h => by
  simp only [refNum] at h
  split at h
  ·cases h
  ·have := refNum_ge r _ k h
   omega
theorem number_bad {p : List UInt8} {c : UInt8} (hc : c ∈ p) (h : c.toNat < 48 ∨ 57 < c.toNat) : number p 255 = none := by
 cases hn : number p 255 with
 | none => rfl
 | some v =>
  obtain ⟨_, _, _, e⟩ := number_some.1 hn
  rw [e] at hc
  have := decDigits_dig _ c hc
  omega
theorem number_zero {c : UInt8} (p : List UInt8) : number (48 :: c :: p) 255 = none := by
 cases hn : number (48 :: c :: p) 255 with
 | none => rfl
 | some v =>
  obtain ⟨_, _, _, e⟩ := number_some.1 hn
  exfalso
  by_cases h : v.toNat < 10
  ·rw [dec_lt' h] at e; simp at e
  ·have := dec_head v.toNat (by omega)
   rw [← e] at this
   exact this rfl
theorem number_great {u : Nat} (hu : 255 < u) (hm : u < 9223372036854775808) (q : List UInt8) : number (decDigits u ++ q) 255 = none := by
 cases hn : number (decDigits u ++ q) 255 with
 | none => rfl
 | some v =>
  obtain ⟨h0, h1, h2, e⟩ := number_some.1 hn
  have h3 := refNum_dec v.toNat (by omega)
  rw [← e, refNum_append, refNum_dec u hm] at h3
  have := refNum_ge q u _ h3
  omega
theorem dotScan_eq : ∀ (l out : List UInt8) (n signs : Nat) (part : List UInt8), (signs = 0 → n = 0 ∧ part = []) → (0 < signs → n ≤ 255 ∧ part = decDigits n) →
  dotScan out n signs l = dotParts out (splitC 46 (part ++ l))
 | [], out, n, signs, part, h0, h1 => by
  rw [List.append_nil]
  by_cases hs : signs = 0
  ·obtain ⟨rfl, rfl⟩ := h0 hs
   simp only [dotScan, splitC, dotParts, number_nil]
   rw [if_pos (Or.inl hs)]
  ·obtain ⟨hn, rfl⟩ := h1 (by omega)
   rw [splitC_no (dec_dot n)]
   simp only [dotScan, dotParts, number_dec hn, Int.toNat_natCast, List.length_append, List.length_cons, List.length_nil]
   by_cases h4 : out.length = 4
   ·rw [if_pos (Or.inr h4), if_pos h4]
   ·rw [if_neg (by omega), if_neg h4]
 | c :: r, out, n, signs, part, h0, h1 => by
  have hp : (46 : UInt8) ∉ part := by
   rcases Nat.eq_zero_or_pos signs with hs | hs
   ·rw [(h0 hs).2]; simp
   ·rw [(h1 hs).2]; exact dec_dot n
  unfold dotScan
  by_cases hc : c.toNat = 46
  ·have e : c = 46 := UInt8.toNat_inj.1 hc
   subst e
   rw [if_pos hc, splitC_app r hp]
   by_cases hs : signs = 0
   ·obtain ⟨rfl, rfl⟩ := h0 hs
    rw [if_pos (Or.inl hs)]
    simp only [dotParts, number_nil]
   ·obtain ⟨hn, rfl⟩ := h1 (by omega)
    simp only [dotParts, number_dec hn, Int.toNat_natCast]
    by_cases h4 : out.length = 4
    ·rw [if_pos (Or.inr h4), if_pos h4]
    ·rw [if_neg (by omega), if_neg h4, dotScan_eq r (out ++ [UInt8.ofNat n]) 0 0 [] (fun _ => ⟨rfl, rfl⟩) (fun h => by omega)]
     rfl
  ·have hc' : ¬ c = 46 := fun e => hc (by rw [e]; rfl)
   have hsp : splitC 46 (part ++ c :: r) = (part ++ c :: (splitC 46 r).headD []) :: (splitC 46 r).tail := by
    rw [splitC_pre _ hp]
    simp only [splitC]
    rw [if_neg hc']
    rfl
   rw [if_neg hc]
   split
   ·rename_i hb
    rw [hsp]
    simp only [dotParts]
    rcases Nat.lt_or_ge c.toNat 48 with h | h
    ·rw [number_bad (c := c) (by simp) (Or.inl h)]
    ·rcases Nat.lt_or_ge 57 c.toNat with h' | h'
     ·rw [number_bad (c := c) (by simp) (Or.inr h')]
     ·obtain ⟨hs, rfl⟩ : 0 < signs ∧ n = 0 := by omega
      obtain ⟨_, rfl⟩ := h1 hs
      rw [show decDigits 0 = [48] by rw [dec_lt' (by omega)]; rfl, List.singleton_append, number_zero]
   ·rename_i hb
    have hext : part ++ [c] = decDigits (10 * n + (c.toNat - 48)) := by
     rcases Nat.eq_zero_or_pos signs with hs | hs
     ·obtain ⟨rfl, rfl⟩ := h0 hs
      rw [dec_lt' (by omega), List.nil_append]
      congr 1
      apply UInt8.toNat_inj.1
      rw [UInt8.toNat_ofNat']; omega
     ·obtain ⟨hn, rfl⟩ := h1 hs
      rw [dec_ge' (m := 10 * n + (c.toNat - 48)) (by omega), show (10 * n + (c.toNat - 48)) / 10 = n by omega]
      congr 2
      apply UInt8.toNat_inj.1
      rw [UInt8.toNat_ofNat']; omega
    split
    ·rename_i hg
     rw [hsp, show part ++ c :: (splitC 46 r).headD [] = (part ++ [c]) ++ (splitC 46 r).headD [] by simp, hext]
     simp only [dotParts]
     rw [number_great hg (by
                 have := c.toNat_lt; have : n ≤ 255 := by
                  rcases Nat.eq_zero_or_pos signs with hs | hs
                  ·rw [(h0 hs).1]; omega
                  ·exact (h1 hs).1
                 omega)]
    ·rename_i hg
     rw [show part ++ c :: r = (part ++ [c]) ++ r by simp]
     exact dotScan_eq r out _ (signs + 1) _ (fun h => by omega) (fun _ => ⟨by omega, hext⟩)
theorem dotScan_dotted (l : List UInt8) : dotScan [] 0 0 l = dotted l := by
 rw [dotScan_eq l [] 0 0 [] (fun _ => ⟨rfl, rfl⟩) (fun h => by omega)]; rfl
end Go.ColonPlain
namespace Go.ColonPlain
open Go.OctetPlain Go.Lib
def ddAt (l : List UInt8) (j : Nat) : Prop := l[j]? = some 58 ∧ l[j + 1]? = some 58
instance (l : List UInt8) (j : Nat) : Decidable (ddAt l j) := by unfold ddAt; infer_instance
theorem dd_zero (b : UInt8) (l : List UInt8) : List.isPrefixOf [58, 58] (b :: l) = decide (ddAt (b :: l) 0) := by
 cases l with
 | nil => simp [List.isPrefixOf, ddAt]
 | cons c r =>
  simp only [List.isPrefixOf, Bool.and_true, ddAt, List.getElem?_cons_zero, List.getElem?_cons_succ, Option.some.injEq]
  by_cases h1 : b = 58
  ·by_cases h2 : c = 58
   ·simp [h1, h2]
   ·simp [h1, h2, Ne.symm h2]
  ·simp [h1, Ne.symm h1]
def ofB (L : List Int) : List UInt8 := L.flatMap fun n => [UInt8.ofNat (n.toNat / 256), UInt8.ofNat (n.toNat % 256)]
theorem ofB_length : ∀ L : List Int, (ofB L).length = 2 * L.length
 | [] => rfl
 | n :: r => by
  have := ofB_length r
  unfold ofB at this ⊢
  rw [List.flatMap_cons, List.length_append, this]
  simp only [List.length_cons, List.length_nil]
  omega
theorem ofB_get : ∀ (L : List Int) (k : Nat) (n : Int), L[k]? = some n → (ofB L)[2 * k]? = some (UInt8.ofNat (n.toNat / 256)) ∧ (ofB L)[2 * k + 1]? = some (UInt8.ofNat (n.toNat % 256))
 | [], k, n, h => by simp at h
 | m :: r, 0, n, h => by simp at h; subst h; simp [ofB]
 | m :: r, k + 1, n, h => by
  have ih := ofB_get r k n (by simpa using h)
  have e : ofB (m :: r) = UInt8.ofNat (m.toNat / 256) :: UInt8.ofNat (m.toNat % 256) :: ofB r := rfl
  rw [e, show 2 * (k + 1) = 2 * k + 1 + 1 by omega, List.getElem?_cons_succ, List.getElem?_cons_succ, List.getElem?_cons_succ, List.getElem?_cons_succ]
  exact ih
theorem of_eq : ∀ L : List Int, of L = if ∀ n ∈ L, 0 ≤ n ∧ n ≤ 65535 then some (ofB L) else none
 | [] => by simp [of, ofB]
 | n :: r => by
  rw [of, of_eq r]
  by_cases hn : n < 0 ∨ 65535 < n
  ·rw [if_pos hn, if_neg]
   intro h
   have := h n (by simp)
   omega
  ·rw [if_neg hn]
   by_cases hr : ∀ m ∈ r, 0 ≤ m ∧ m ≤ 65535
   ·rw [if_pos hr, if_pos]
    ·rfl
    ·intro m hm
     rcases List.mem_cons.1 hm with rfl | hm
     ·omega
     ·exact hr m hm
   ·rw [if_neg hr, if_neg]
    ·rfl
    ·intro h; exact hr fun m hm => h m (by simp [hm])
theorem of_bad {L : List Int} {k : Nat} {n : Int} (h : L[k]? = some n) (hn : n < 0 ∨ 65535 < n) : of L = none := by
 rw [of_eq, if_neg]
 intro hh
 have := hh n (List.mem_of_getElem? h)
 omega
theorem of_good {L : List Int} (h : ∀ (k : Nat) (n : Int), L[k]? = some n → 0 ≤ n ∧ n ≤ 65535) : of L = some (ofB L) := by
 rw [of_eq, if_pos]
 intro n hn
 obtain ⟨k, hk⟩ := List.getElem?_of_mem hn
 exact h k n hk
theorem zs_length (l : List Nat) : (zs l).length = l.length := by simp [zs]
theorem hexN_low1 {u : Nat} (h : u < 16) : hexN u = [letter u] := by unfold hexN; rw [if_pos h]
theorem hexN_step {u : Nat} (h : 16 ≤ u) (h2 : u < 65536) : hexN u = hexN (u / 16) ++ [letter (u % 16)] := by
 unfold hexN
 have n16 : ¬ u < 16 := by omega
 by_cases h1 : u < 256
 ·have a1 : u / 16 < 16 := by omega
  rw [if_neg n16, if_pos h1, if_pos a1]; rfl
 ·have a1 : ¬ u / 16 < 16 := by omega
  by_cases h3 : u < 4096
  ·have a2 : u / 16 < 256 := by omega
   rw [if_neg n16, if_neg h1, if_pos h3, if_neg a1, if_pos a2, Nat.div_div_eq_div_mul]; rfl
  ·have a2 : ¬ u / 16 < 256 := by omega
   have a3 : u / 16 < 4096 := by omega
   rw [if_neg n16, if_neg h1, if_neg h3, if_neg a1, if_neg a2, if_pos a3, Nat.div_div_eq_div_mul, Nat.div_div_eq_div_mul]
   rfl
theorem dig_idx : ∀ n : Fin 128, (if 65 ≤ (n : Nat) ∧ (n : Nat) ≤ 70 then ((n : Nat) : Int) - 65 + 10 else Lib.indexByte [48, 49, 50, 51, 52, 53, 54, 55, 56, 57, 97, 98, 99, 100, 101, 102] (UInt8.ofNat n)) = dig (UInt8.ofNat n) := by decide +kernel
end Go.ColonPlain
namespace Go.ColonPlain
open Go.OctetPlain Go.Lib
theorem rowParts_le (last : Bool) : ∀ (ps : List (List UInt8)) (out L : List Nat), rowParts last out ps = some L → L.length ≤ out.length + 2 * ps.length
 | [], out, L, h => by cases h; simp
 | p :: ps, out, L, h => by
  rw [rowParts] at h
  cases hg : group p with
  | some n =>
   rw [hg] at h
   have := rowParts_le last ps _ L h
   simp only [List.length_append, List.length_cons, List.length_nil] at this ⊢
   omega
  | none =>
   rw [hg] at h
   cases hd : dotted p with
   | none => rw [hd] at h; cases h
   | some a =>
    rw [hd] at h
    simp only at h
    split at h
    ·cases h; simp; omega
    ·cases h
theorem row_le {last : Bool} {l : List UInt8} {L : List Nat} (h : row last l = some L) : L.length ≤ 2 * (l.length + 1) := by
 unfold row at h
 split at h
 ·cases h; simp
 ·have h1 := rowParts_le last _ [] L h
  have h2 := split_count 58 l
  rw [count_one] at h2
  have h3 := List.count_le_length (a := (58 : UInt8)) (l := l)
  simp at h1
  omega
theorem rowParts_lt (last : Bool) : ∀ (ps : List (List UInt8)) (out L : List Nat), (∀ n ∈ out, n < 65536) → rowParts last out ps = some L → ∀ n ∈ L, n < 65536
 | [], out, L, ho, h => by cases h; exact ho
 | p :: ps, out, L, ho, h => by
  rw [rowParts] at h
  cases hg : group p with
  | some n =>
   rw [hg] at h
   refine rowParts_lt last ps _ L (fun x hx => ?_) h
   rcases List.mem_append.1 hx with hx | hx
   ·exact ho x hx
   ·rw [List.mem_singleton.1 hx]; exact group_lt hg
  | none =>
   rw [hg] at h
   cases hd : dotted p with
   | none => rw [hd] at h; cases h
   | some a =>
    rw [hd] at h
    simp only at h
    split at h
    ·cases h
     intro x hx
     have b0 := (a.getD 0 0).toNat_lt
     have b1 := (a.getD 1 0).toNat_lt
     have b2 := (a.getD 2 0).toNat_lt
     have b3 := (a.getD 3 0).toNat_lt
     rcases List.mem_append.1 hx with hx | hx
     ·exact ho x hx
     ·simp only [List.mem_cons, List.not_mem_nil, or_false] at hx
      rcases hx with rfl | rfl <;> omega
    ·cases h
theorem row_lt {last : Bool} {l : List UInt8} {L : List Nat} (h : row last l = some L) : ∀ n ∈ L, n < 65536 := by
 unfold row at h
 split at h
 ·cases h; simp
 ·exact rowParts_lt last _ [] L (by simp) h
theorem ints_app (a b : List Nat) : ints (a ++ b) = ints a ++ ints b := by simp [ints]
theorem ints_rep (n : Nat) : ints (List.replicate n 0) = List.replicate n 0 := by simp [ints]
theorem ints_len' (G : List Nat) : (ints G).length = G.length := by simp [ints]
theorem parse_none_a {s : List UInt8} (h : row (!(cut s [58, 58]).2.2) (cut s [58, 58]).1 = none) : parse s = none := by
 unfold parse; rw [h]
theorem parse_none_b {s : List UInt8} (h : row true (cut s [58, 58]).2.1 = none) : parse s = none := by
 unfold parse; rw [h]; split <;> simp_all
theorem parse_some {s : List UInt8} {a b : List Nat} (ha : row (!(cut s [58, 58]).2.2) (cut s [58, 58]).1 = some a) (hb : row true (cut s [58, 58]).2.1 = some b) :
  parse s = if ((cut s [58, 58]).2.2 = true ∧ 7 < a.length + b.length) ∨ ((cut s [58, 58]).2.2 = false ∧ a.length + b.length ≠ 8) then none else of (ints (a ++ List.replicate (8 - a.length - b.length) 0 ++ b)) := by
 unfold parse; rw [ha, hb]
theorem cut_le (s : List UInt8) : (cut s [58, 58]).1.length ≤ s.length ∧ (cut s [58, 58]).2.1.length ≤ s.length := by
 unfold cut
 split
 ·constructor
  ·simp only [List.length_take]; omega
  ·simp only [List.length_drop]; omega
 ·simp
theorem fill_front {a : List Nat} (h : a.length ≤ 8) : (List.replicate 8 (0 : Int)).take 0 ++ ints a ++ (List.replicate 8 (0 : Int)).drop (0 + (ints a).length) = ints a ++ List.replicate (8 - a.length) 0 := by
 rw [List.take_zero, List.nil_append, Nat.zero_add, ints_len', List.drop_replicate]
theorem fill_back {a b : List Nat} {q : Nat} (h : a.length + b.length ≤ 8) (hq : q + b.length = 8) :
  (ints a ++ List.replicate (8 - a.length) 0).take q ++ ints b ++ (ints a ++ List.replicate (8 - a.length) 0).drop (q + (ints b).length) = ints (a ++ List.replicate (8 - a.length - b.length) 0 ++ b) := by
 rw [ints_app, ints_app, ints_rep, ints_len']
 have hl : (ints a ++ List.replicate (8 - a.length) (0 : Int)).length = 8 := by rw [List.length_append, ints_len', List.length_replicate]; omega
 rw [List.drop_eq_nil_of_le (by omega), List.append_nil, List.take_append, List.take_of_length_le (by rw [ints_len']; omega), ints_len', List.take_replicate]
 congr 3
 omega
theorem parse_length {s c : List UInt8} (h : parse s = some c) : c.length = 16 := by
 unfold parse at h
 split at h
 ·rename_i a b ha hb
  split at h
  ·cases h
  ·rename_i hn
   have h1 := of_length _ _ h
   have h2 : (ints (a ++ List.replicate (8 - a.length - b.length) 0 ++ b)).length = 8 := by
    rw [ints_len', List.length_append, List.length_append, List.length_replicate]
    cases hp : (cut s [58, 58]).2.2
    ·rw [hp] at hn; simp at hn; omega
    ·rw [hp] at hn; simp at hn; omega
   omega
 ·cases h
end Go.ColonPlain
