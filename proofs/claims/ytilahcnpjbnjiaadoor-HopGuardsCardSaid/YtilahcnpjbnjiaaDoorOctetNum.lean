/- Digits and Number, the program's and the document's. -/
import Derived.Test.YtilahcnpjbnjiaaDoorOctetRef2
import Derived.Test.YtilahcnpjbnjiaaDoorOctetPlain
namespace Go.Proofs.YtilahcnpjbnjiaaDoor
set_option linter.unusedVariables false
set_option linter.unusedSimpArgs false
open Go.RowKit Go.Shelf Go.Proofs Go.OctetPlain

theorem var_below {w w' : World} {n : String} {cs : Array Value} (h : w.var? Tryd.prog n = some cs) (hb : Below w.heap.size w w') : w'.var? Tryd.prog n = some cs := by
  unfold World.var? at h ⊢
  cases hg : Tryd.prog.globalNamed n with
  | none => rw [hg] at h; simp at h
  | some g =>
    rw [hg] at h
    simp only [Option.bind_some] at h ⊢
    cases hh : w.heap[g]? with
    | none => rw [hh] at h; simp at h
    | some o =>
      rw [hb.block g (Array.getElem?_eq_some_iff.1 hh).1, hh]
      rw [hh] at h
      exact h

/-- the tables and errors that strconv reads -/
structure Tabs (w : World) : Prop where
  pow : Lib.TabIs Tryd.prog w "internal/strconv.uint64pow10" .u64 Lib.pow10Tab
  syn : ∃ tp p, w.var? Tryd.prog "strconv.ErrSyntax" = some #[.iface tp p]
  rng : ∃ tp p, w.var? Tryd.prog "strconv.ErrRange" = some #[.iface tp p]
theorem Tabs.below {w w' : World} (h : Tabs w) (hb : Below w.heap.size w w') : Tabs w' :=
  ⟨var_below h.pow hb, h.syn.elim fun tp ⟨p, e⟩ => ⟨tp, p, var_below e hb⟩, h.rng.elim fun tp ⟨p, e⟩ => ⟨tp, p, var_below e hb⟩⟩
theorem Tabs.next {w w' : World} (h : Tabs w) {B : Nat} (hb : Below B w w') (hB : w.heap.size ≤ B) : Tabs w' := h.below (hb.mono hB)

theorem below_grow (w : World) (q : Nat) (os : Array Obj) : Below w.heap.size w (Go.Sort.grow (w.drewN q) os) :=
  ⟨rfl, rfl, rfl, by simp [Go.Sort.grow, World.drewN], fun k hk => by
    show (w.heap ++ os)[k]? = w.heap[k]?
    rw [Array.getElem?_append_left hk]⟩

theorem octet_Digits (n : Int) (hn : -9223372036854775808 ≤ n ∧ n ≤ 9223372036854775807) (w : World) (ht : Tabs w) :
    Calls Tryd.prog 23 #[.int .i64 n] w fun e w' => e = .returned (.string (str (Lib.itoa n))) ∧ Below w.heap.size w w' := by
  have hcon := Any.strconv_Itoa Tryd.itoa n hn.1 hn.2 w ht.pow
  change Calls Tryd.prog 41 _ _ _ at hcon
  have HC := Lib.hid hcon
  clear hcon
  go_enter Tryd.func23, Tryd.ntmps23
  go_wp2_with fail
  refine HC.out.mono ?_
  rintro e w1 ⟨rfl, k, os, rfl⟩
  go_wp2_with fail
  go_ret
  exact ⟨rfl, below_grow _ _ _⟩

theorem tdig : ∀ m : Nat, m < 10 → (⟨#[48, 49, 50, 51, 52, 53, 54, 55, 56, 57]⟩ : ByteArray).extract m (m + 1) = str [UInt8.ofNat (48 + m)] := by
  intro m hm
  show (str [48, 49, 50, 51, 52, 53, 54, 55, 56, 57]).extract m (m + 1) = _
  rw [str_cut]
  match m, hm with
  | 0, _ => rfl
  | 1, _ => rfl
  | 2, _ => rfl
  | 3, _ => rfl
  | 4, _ => rfl
  | 5, _ => rfl
  | 6, _ => rfl
  | 7, _ => rfl
  | 8, _ => rfl
  | 9, _ => rfl
theorem dec_lt {m : Nat} (h : m < 10) : Lib.decDigits m = [UInt8.ofNat (48 + m)] := by rw [Lib.decDigits, dif_pos h]
theorem dec_ge {m : Nat} (h : ¬ m < 10) : Lib.decDigits m = Lib.decDigits (m / 10) ++ [UInt8.ofNat (48 + m % 10)] := by rw [Lib.decDigits, dif_neg h]

set_option maxRecDepth 100000 in
theorem ref_Digits_pos (N : Nat) (hn : N ≤ 9223372036854775807) (w : World) :
    Calls Tryd.prog 26 #[.int .i64 N] w fun e w' => e = .returned (.string (str (Lib.decDigits N))) ∧ w' = w := by
  have hN : (Lib.decDigits N).length ≤ 1000 := by
    rw [Lib.decDigits_length]; have := nDigits_le19 N (by omega); omega
  go_enter Tryd.func26, Tryd.ntmps26
  go_wp2_with fail
  go_loop [0, 5] (fun n s => ∃ (m : Nat) (sfx : List UInt8), n = .int .i64 m ∧ s = .string (str sfx) ∧ m ≤ 9223372036854775807 ∧ Hid (Lib.decDigits m ++ sfx = Lib.decDigits N)) (fun n _ => (intOf n).toNat + 1)
  case atStart => exact ⟨N, [], rfl, rfl, hn, Lib.hid (by simp)⟩
  case round =>
    obtain ⟨m, sfx, rfl, rfl, hm, HI⟩ := hrel
    have hl : sfx.length ≤ 1000 := by have := congrArg List.length HI.out; rw [List.length_append] at this; omega
    have h1 : (str sfx).size = sfx.length := str_size _
    have HD := Lib.hid (tdig (m % 10) (by omega))
    have h2 : ∀ c, (str [c]).size = 1 := fun c => str_size _
    by_cases h10 : m < 10
    · have e0 : m % 10 = m := Nat.mod_eq_of_lt h10
      go_wp2_with fail
      refine bodyPost_ret (v := .string (str (Lib.decDigits N))) ?_ rfl ⟨rfl, rfl⟩
      rw [← HI.out, dec_lt h10, ← str_app, ← tdig m h10]
      simp [results, Tryd.results26, go_sem, e0]
    · go_wp2_with fail
      refine ⟨⟨m / 10, [UInt8.ofNat (48 + m % 10)] ++ sfx, by simp, by rw [← str_app, HD.out], by omega, Lib.hid (by rw [← HI.out, dec_ge h10, List.append_assoc])⟩, by simp [intOf]; omega⟩

set_option maxRecDepth 100000 in
theorem ref_Digits_neg (N : Nat) (h0 : 0 < N) (hn : N ≤ 9223372036854775808) (w : World) :
    Calls Tryd.prog 26 #[.int .i64 (-(N : Int))] w fun e w' => e = .returned (.string (str (45 :: Lib.decDigits N))) ∧ w' = w := by
  have hN : (Lib.decDigits N).length ≤ 1000 := by
    rw [Lib.decDigits_length]
    have h1 := nDigits_le19 (N / 10) (by omega)
    by_cases h : N < 10
    · rw [Lib.nDigits_small h]; omega
    · rw [Lib.nDigits_big h]; omega
  go_enter Tryd.func26, Tryd.ntmps26
  go_wp2_with fail
  go_loop [0, 3, 4] (fun n s u => ∃ (m : Nat) (sfx : List UInt8), n = .int .i64 (-(m : Int)) ∧ s = .string (str sfx) ∧ m ≤ N ∧ Hid ((m = 0 → sfx = Lib.decDigits N) ∧ (0 < m → Lib.decDigits m ++ sfx = Lib.decDigits N))) (fun n _ _ => (-(intOf n)).toNat)
  case atStart => exact ⟨N, [], rfl, rfl, Nat.le_refl _, Lib.hid ⟨fun h => by omega, fun _ => by simp⟩⟩
  case round =>
    obtain ⟨m, sfx, rfl, rfl, hm, HI⟩ := hrel
    have hl : sfx.length ≤ 1000 := by
      rcases Nat.eq_zero_or_pos m with h | h
      · rw [HI.out.1 h]; exact hN
      · have := congrArg List.length (HI.out.2 h); rw [List.length_append] at this; omega
    have h1 : (str sfx).size = sfx.length := str_size _
    have HD := Lib.hid (tdig (m % 10) (by omega))
    have h2 : ∀ c, (str [c]).size = 1 := fun c => str_size _
    by_cases hm0 : m = 0
    · go_wp2_with fail
      refine bodyPost_ret (v := .string (str (45 :: Lib.decDigits N))) ?_ rfl ⟨rfl, rfl⟩
      rw [← HI.out.1 hm0, show (45 :: sfx) = [45] ++ sfx from rfl, ← str_app]
      simp [results, Tryd.results26, go_sem, str]
    · have e1 : Int.tmod (-(m : Int)) 10 = -((m % 10 : Nat) : Int) := by rw [Int.neg_tmod, Int.tmod_eq_emod_of_nonneg (by omega)]; simp
      have e2 : Int.tdiv (-(m : Int)) 10 = -((m / 10 : Nat) : Int) := by rw [Int.neg_tdiv, Int.tdiv_eq_ediv_of_nonneg (by omega)]; simp
      have HX : Hid (Lib.decDigits m ++ sfx = Lib.decDigits N) := HI.out.2 (by omega)
      have h45 : ByteArray.size ⟨#[45]⟩ = 1 := rfl
      go_wp2_with fail
      refine ⟨⟨m / 10, [UInt8.ofNat (48 + m % 10)] ++ sfx, by simp, by rw [← str_app, Nat.add_comm 1, HD.out], by omega, Lib.hid ⟨fun h => ?_, fun h => ?_⟩⟩, by simp [intOf]; omega⟩
      · rw [← HX.out, dec_lt (m := m) (by omega), show m % 10 = m by omega]
      · rw [← HX.out, dec_ge (m := m) (by omega), List.append_assoc]

theorem ref_Digits (n : Int) (hn : -9223372036854775808 ≤ n ∧ n ≤ 9223372036854775807) (w : World) :
    Calls Tryd.prog 26 #[.int .i64 n] w fun e w' => e = .returned (.string (str (Lib.itoa n))) ∧ w' = w := by
  unfold Lib.itoa
  by_cases h : n < 0
  · rw [if_pos h]
    have := ref_Digits_neg n.natAbs (by omega) (by omega) w
    rwa [show -((n.natAbs : Nat) : Int) = n by omega] at this
  · rw [if_neg h]
    have := ref_Digits_pos n.toNat (by omega) w
    rwa [show ((n.toNat : Nat) : Int) = n by omega] at this
end Go.Proofs.YtilahcnpjbnjiaaDoor
