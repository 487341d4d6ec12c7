/- A text cut at its spaces: the library's, by definition. -/
import Derived.Test.YtilahcnpjbnjiaaDoorHopPlain
import Derived.Test.YtilahcnpjbnjiaaDoorShelfC
import Derived.Test.YtilahcnpjbnjiaaDoorHopRd
namespace Go.Proofs.YtilahcnpjbnjiaaDoor
set_option linter.unusedVariables false
set_option linter.unusedSimpArgs false
open Go.RowKit Go.Shelf Go.Proofs Go.OctetPlain

theorem hidx_no {d : UInt8} : ∀ {l : List UInt8}, d ∉ l → Lib.index l [d] = -1
  | [], _ => by simp [Lib.index]
  | c :: r, h => by
    have h1 : ¬ c = d := fun e => h (by simp [e])
    have h2 : d ∉ r := fun e => h (by simp [e])
    rw [Lib.index, hidx_no h2]
    simp [List.isPrefixOf, Ne.symm h1]
theorem hidx_app {d : UInt8} : ∀ {a : List UInt8} (b : List UInt8), d ∉ a → Lib.index (a ++ d :: b) [d] = a.length
  | [], b, _ => by simp [Lib.index, List.isPrefixOf]
  | c :: r, b, h => by
    have h1 : ¬ c = d := fun e => h (by simp [e])
    have h2 : d ∉ r := fun e => h (by simp [e])
    rw [List.cons_append, Lib.index, hidx_app b h2]
    simp [List.isPrefixOf, Ne.symm h1]
theorem hno {a : List UInt8} (h : (32 : UInt8) ∉ a) : ∀ c ∈ a, c ≠ 32 := fun c hc e => h (by rw [← e]; exact hc)
theorem hsplitK_eq : ∀ (k : Nat) (s : List UInt8), s.count 32 ≤ k → Lib.splitK [32] 0 k s = Hp.spl s
  | 0, s, h => by
    have : (32 : UInt8) ∉ s := fun e => by have := List.count_pos_iff.2 e; omega
    rw [Hp.spl_word s (hno this)]; rfl
  | k + 1, s, h => by
    unfold Lib.splitK
    by_cases hd : (32 : UInt8) ∈ s
    · obtain ⟨a, b, rfl, ha⟩ := List.eq_append_cons_of_mem hd
      rw [hidx_app b ha, Hp.spl_app a b (hno ha)]
      have hc : b.count 32 ≤ k := by
        rw [List.count_append, List.count_cons_self] at h; omega
      rw [if_neg (by simp)]
      simp only [Nat.add_zero, Int.toNat_natCast, List.take_left, List.length_cons, List.length_nil, Nat.zero_add]
      rw [List.drop_append, List.drop_eq_nil_of_le (by omega), List.nil_append, show a.length + 1 - a.length = 1 by omega, List.drop_one, List.tail_cons, hsplitK_eq k b hc]
    · rw [hidx_no hd, Hp.spl_word s (hno hd)]; rfl
theorem hsplit_eq (s : List UInt8) : Lib.splitK [32] 0 (Lib.count s [32]) s = Hp.spl s := hsplitK_eq _ s (by rw [Lib.count_one]; exact Nat.le_refl _)
theorem spl_len : ∀ s : List UInt8, (Hp.spl s).length = s.count 32 + 1
  | [] => rfl
  | c :: r => by
    have ih := spl_len r
    unfold Hp.spl
    by_cases h : c = 32
    · rw [if_pos h]; subst h; rw [List.count_cons_self, List.length_cons, ih]
    · rw [if_neg h, List.count_cons_of_ne (by simpa using h)]
      cases hs : Hp.spl r with
      | nil => exact absurd hs (Hp.spl_ne r)
      | cons w ws => rw [hs] at ih; simpa using ih
theorem spl_le : ∀ s : List UInt8, ∀ w ∈ Hp.spl s, w.length ≤ s.length
  | [], w, h => by simp [Hp.spl] at h; subst h; simp
  | c :: r, w, h => by
    have ih := spl_le r
    unfold Hp.spl at h
    by_cases hc : c = 32
    · rw [if_pos hc] at h
      rcases List.mem_cons.1 h with rfl | h
      · simp
      · have := ih w h; simp; omega
    · rw [if_neg hc] at h
      cases hs : Hp.spl r with
      | nil => exact absurd hs (Hp.spl_ne r)
      | cons v vs =>
        rw [hs] at h ih
        rcases List.mem_cons.1 h with rfl | h
        · have := ih v List.mem_cons_self; simp; omega
        · have := ih w (List.mem_cons_of_mem _ h); simp; omega
theorem hpieces_eq (l : List UInt8) : Lib.splitB (str [32]) 0 (Lib.countB (str l) (str [32])) (str l) = (Hp.spl l).map str := by
  have h := Lib.splitB_data (str [32]) 0 (Lib.countB (str l) (str [32])) (str l)
  have hc : Lib.countB (str l) (str [32]) = Lib.count l [32] := by unfold Lib.countB; rw [list_str, list_str]
  rw [list_str, list_str, hc, hsplit_eq] at h
  have h2 := congrArg (List.map str) h
  rw [List.map_map] at h2
  have : str ∘ (fun s : ByteArray => s.data.toList) = id := by funext s; exact str_list s
  rw [this, List.map_id] at h2
  rw [hc]; exact h2
theorem hpieces_count (l : List UInt8) : Lib.countB (str l) (str [32]) + 1 = (Hp.spl l).length := by
  have hc : Lib.countB (str l) (str [32]) = Lib.count l [32] := by unfold Lib.countB; rw [list_str, list_str]
  rw [hc, Lib.count_one, spl_len]
theorem flat_encS (ws : List Hp.Wd) : flat encS ws = (ws.map str).map Value.string := by
  induction ws with
  | nil => rfl
  | cons x xs ih => simp only [flat, List.flatMap_cons, List.map_cons] at ih ⊢; rw [ih]; rfl
/-- 'strings.Split(s, " ")' -/
theorem splitS_any (l : List UInt8) (hl : l.length ≤ 1000000) (m : Int) (w : World) (hm : w.cell? ⟨0, 0, none⟩ = some (.int .i64 m)) :
    Calls Tryd.prog 28 #[.string (str l), .string ⟨#[32]⟩] w fun e w' => e = .returned (.slice (some ⟨w.heap.size, 0, none⟩) (Hp.spl l).length (Hp.spl l).length) ∧ w' = w.alloc (.cells (flat encS (Hp.spl l)).toArray 9) := by
  have hcon := Any.strings_Split { Tryd.split with } Tryd.split.i9 (str l) ⟨#[32]⟩ m w (by rw [str_size]; omega) hm (by decide)
  change Calls Tryd.prog 28 _ _ _ at hcon
  rw [flat_encS, ← hpieces_count, ← hpieces_eq]
  exact hcon
end Go.Proofs.YtilahcnpjbnjiaaDoor
