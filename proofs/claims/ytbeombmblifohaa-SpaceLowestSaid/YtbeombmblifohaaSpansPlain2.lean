/- Plain facts for the laws of layer 11 that have no reference: a normal row's count is how many labels it has; what cut and add leave. No program in sight. -/
import Derived.Test.YtbeombmblifohaaSpansPlain
namespace Go.Proofs.Ytbeombmblifohaa.Sp
set_option linter.unusedVariables false
set_option linter.unusedSimpArgs false

/-- how many of 0, 1, .., N-1 have p -/
def cnt (p : Int → Bool) : Nat → Int
  | 0 => 0
  | n + 1 => cnt p n + if p n = true then 1 else 0
theorem cnt_congr {p q : Int → Bool} : ∀ {N : Nat}, (∀ n : Int, 0 ≤ n → n < N → p n = q n) → cnt p N = cnt q N
  | 0, _ => rfl
  | n + 1, h => by
    simp only [cnt]
    rw [cnt_congr (N := n) fun m h1 h2 => h m h1 (by omega), h n (by omega) (by omega)]
theorem cnt_or {p q r : Int → Bool} : ∀ {N : Nat}, (∀ n : Int, r n = (p n || q n)) → (∀ n : Int, ¬ (p n = true ∧ q n = true)) → cnt r N = cnt p N + cnt q N
  | 0, _, _ => rfl
  | n + 1, h, hd => by
    simp only [cnt]
    rw [cnt_or (N := n) h hd, h n]
    have := hd n
    cases hp : p n <;> cases hq : q n <;> simp_all <;> omega
theorem cnt_none {p : Int → Bool} : ∀ {N : Nat}, (∀ n : Int, p n = false) → cnt p N = 0
  | 0, _ => rfl
  | n + 1, h => by simp only [cnt]; rw [cnt_none (N := n) h, h n]; rfl
theorem cnt_span (a b : Int) (ha : 0 ≤ a) (hb : a ≤ b) : ∀ (N : Nat), cnt (fun n => decide (a ≤ n) && decide (n ≤ b)) N = if (N : Int) ≤ a then 0 else if (N : Int) ≤ b then N - a else b - a + 1
  | 0 => by simp [cnt, ha]
  | n + 1 => by
    simp only [cnt]
    rw [cnt_span a b ha hb n]
    by_cases h1 : (n : Int) < a
    · rw [if_pos (by omega), if_neg (by simp; omega), if_pos (by push_cast; omega)]; rfl
    · by_cases h2 : (n : Int) ≤ b
      · rw [if_pos (show (decide (a ≤ (n : Int)) && decide ((n : Int) ≤ b)) = true by simp; omega)]
        push_cast
        split <;> split <;> (try split) <;> omega
      · rw [if_neg (show ¬ (decide (a ≤ (n : Int)) && decide ((n : Int) ≤ b)) = true by simp; omega)]
        push_cast
        split <;> split <;> (try split) <;> omega

theorem cnt_size {s : S} (h : mayB s = true) {N : Nat} (hN : (1048576 : Int) ≤ N) : cnt (fun n => decide (s.1 ≤ n) && decide (n ≤ s.2)) N = size s := by
  obtain ⟨h1, h2, h3⟩ := mayB_iff.1 h
  rw [cnt_span s.1 s.2 h1 h2 N, if_neg (by omega), if_neg (by omega)]
  rfl

theorem Nrm.low {s : S} {r : List S} (h : Nrm (s :: r)) {n : Int} (hn : In r n) : s.2 < n := by
  obtain ⟨t, ht, _, h1, _⟩ := hn
  have := h.2.1 t ht
  omega

theorem total_cnt {N : Nat} (hN : (1048576 : Int) ≤ N) : ∀ {m : List S}, Nrm m → total m = cnt (inB m) N
  | [], _ => by rw [cnt_none (p := inB []) (fun n => rfl)]; rfl
  | s :: r, h => by
    have ih := total_cnt hN h.2.2
    simp only [total]
    rw [ih, ← cnt_size h.1 hN]
    symm
    refine cnt_or (fun n => ?_) (fun n ⟨h1, h2⟩ => ?_)
    · simp [inB, h.1]
    · have := h.low (inB_iff.1 h2)
      simp at h1
      omega

theorem count_cnt {N : Nat} (hN : (1048576 : Int) ≤ N) (l : List S) : count l = cnt (inB l) N := by
  unfold count
  rw [total_cnt hN (norm_ok l).1]
  exact cnt_congr fun n _ _ => inB_of ((inB_iff).trans ((norm_ok l).2 n).symm)

theorem in_one (s : S) (n : Int) : In [s] n ↔ (mayB s = true ∧ s.1 ≤ n ∧ n ≤ s.2) := by simp [In]

/-- with a span there are as many labels as without it, and as it has -/
theorem count_add (l : List S) (s : S) : count (add l s) = count (cut l s) + count [s] := by
  obtain ⟨N, hN⟩ : ∃ N : Nat, (1048576 : Int) ≤ N := ⟨1048576, by omega⟩
  rw [count_cnt hN, count_cnt hN, count_cnt hN]
  refine cnt_or (fun n => ?_) (fun n ⟨h1, h2⟩ => ?_)
  · refine inB_of ?_
    rw [in_add, Bool.or_eq_true, inB_iff, inB_iff, in_cut, in_one]
    by_cases h : mayB s = true ∧ s.1 ≤ n ∧ n ≤ s.2 <;> simp [h]
  · rw [inB_iff] at h1 h2
    exact ((in_cut l s n).1 h1).2 ((in_one s n).1 h2)

theorem cut_cut (l : List S) (s : S) : cut (cut l s) s = cut l s :=
  Nrm.uniq (cut_nrm _ _) (cut_nrm _ _) fun n => by rw [in_cut, in_cut]; by_cases h : mayB s = true ∧ s.1 ≤ n ∧ n ≤ s.2 <;> simp [h]
theorem add_add (l : List S) (s : S) : add (add l s) s = add l s :=
  Nrm.uniq (add_nrm _ _) (add_nrm _ _) fun n => by rw [in_add, in_add]; by_cases h : mayB s = true ∧ s.1 ≤ n ∧ n ≤ s.2 <;> simp [h]
theorem add_cut (l : List S) (s : S) : add (cut l s) s = add l s :=
  Nrm.uniq (add_nrm _ _) (add_nrm _ _) fun n => by rw [in_add, in_add, in_cut]; by_cases h : mayB s = true ∧ s.1 ≤ n ∧ n ≤ s.2 <;> simp [h]

/-- what a span of labels that all lie in a normal row has: one of the row's spans holds it -/
theorem Nrm.whole : ∀ {m : List S}, Nrm m → ∀ {a : Int} {k : Nat}, (∀ n : Int, a ≤ n → n ≤ a + k → In m n) → ∃ t ∈ m, t.1 ≤ a ∧ a + k ≤ t.2
  | [], _, a, k, h => absurd (h a (Int.le_refl _) (by omega)) (in_nil _)
  | s :: r, hm, a, k, h => by
    rcases in_cons.1 (h a (Int.le_refl _) (by omega)) with ⟨_, h1, h2⟩ | h1
    · by_cases hk : a + k ≤ s.2
      · exact ⟨s, List.mem_cons_self, h1, hk⟩
      · rcases in_cons.1 (h (s.2 + 1) (by omega) (by omega)) with ⟨_, _, h3⟩ | ⟨t, ht, _, h3, _⟩
        · omega
        · have := hm.2.1 t ht
          omega
    · have hlow := hm.low h1
      obtain ⟨t, ht, h3, h4⟩ := hm.2.2.whole (a := a) (k := k) fun n h5 h6 => by
        rcases in_cons.1 (h n h5 h6) with ⟨_, _, h7⟩ | h7
        · omega
        · exact h7
      exact ⟨t, List.mem_cons_of_mem _ ht, h3, h4⟩

theorem most_le {m : List S} {b : Int} (h0 : 0 ≤ b) (h : ∀ s ∈ m, size s ≤ b) : most m ≤ b := by
  induction m with
  | nil => exact h0
  | cons s r ih =>
    simp only [most]
    have h1 := h s List.mem_cons_self
    have h2 := ih fun t ht => h t (List.mem_cons_of_mem _ ht)
    omega
theorem le_most {m : List S} {s : S} (h : s ∈ m) : size s ≤ most m := by
  induction m with
  | nil => simp at h
  | cons t r ih =>
    simp only [most]
    rcases List.mem_cons.1 h with rfl | h
    · omega
    · have := ih h; omega

/-- more labels: no shorter longest run -/
theorem longest_mono {l m : List S} (h : ∀ n, In l n → In m n) : longest l ≤ longest m := by
  refine most_le (most_nonneg _) fun s hs => ?_
  have hm := (norm_ok l).1.may s hs
  obtain ⟨h1, h2, h3⟩ := mayB_iff.1 hm
  obtain ⟨k, hk⟩ : ∃ k : Nat, s.2 = s.1 + k := ⟨(s.2 - s.1).toNat, by omega⟩
  obtain ⟨t, ht, h4, h5⟩ := (norm_ok m).1.whole (a := s.1) (k := k) fun n h6 h7 => ((norm_ok m).2 n).2 (h n (((norm_ok l).2 n).1 ⟨s, hs, hm, h6, by omega⟩))
  have := le_most ht
  simp only [size] at this ⊢
  unfold longest
  omega
theorem longest_add (l : List S) (s : S) : longest l ≤ longest (add l s) := longest_mono fun n h => (in_add l s n).2 (.inl h)

theorem has_in {l : List S} {s : S} (h : has l s = true) : mayB s = true ∧ ∀ n, s.1 ≤ n → n ≤ s.2 → In l n := by
  simp only [has, Bool.and_eq_true, List.any_eq_true, decide_eq_true_eq] at h
  obtain ⟨hm, x, hx, h1, h2⟩ := h
  exact ⟨hm, fun n h3 h4 => ((norm_ok l).2 n).1 ⟨x, hx, (norm_ok l).1.may x hx, by omega, by omega⟩⟩
theorem meets_no {l : List S} {s : S} (h : meets l s = false) : ∀ n, ¬ (In l n ∧ mayB s = true ∧ s.1 ≤ n ∧ n ≤ s.2) := by
  intro n ⟨h1, hm, h2, h3⟩
  obtain ⟨x, hx, hxm, h4, h5⟩ := ((norm_ok l).2 n).2 h1
  have : meets l s = true := by
    simp only [meets, hm, Bool.true_and, List.any_eq_true, Bool.and_eq_true, decide_eq_true_eq]
    exact ⟨x, hx, by omega, by omega⟩
  rw [h] at this
  cases this
theorem no_meets {l : List S} {s : S} (h : ∀ n, ¬ (In l n ∧ mayB s = true ∧ s.1 ≤ n ∧ n ≤ s.2)) : meets l s = false := by
  cases hm : meets l s with
  | false => rfl
  | true =>
    exfalso
    simp only [meets, Bool.and_eq_true, List.any_eq_true, decide_eq_true_eq] at hm
    obtain ⟨hs, x, hx, h1, h2⟩ := hm
    have hxm := (norm_ok l).1.may x hx
    obtain ⟨a1, a2, a3⟩ := mayB_iff.1 hs
    obtain ⟨b1, b2, b3⟩ := mayB_iff.1 hxm
    by_cases hc : x.1 ≤ s.1
    · exact h s.1 ⟨((norm_ok l).2 _).1 ⟨x, hx, hxm, hc, by omega⟩, hs, Int.le_refl _, by omega⟩
    · exact h x.1 ⟨((norm_ok l).2 _).1 ⟨x, hx, hxm, Int.le_refl _, by omega⟩, hs, by omega, by omega⟩

theorem cut_add_back {l : List S} {s : S} (h : meets l s = false) : cut (add l s) s = norm l :=
  Nrm.uniq (cut_nrm _ _) (norm_ok l).1 fun n => by
    rw [in_cut, in_add, (norm_ok l).2 n]
    have := meets_no h n
    by_cases h1 : mayB s = true ∧ s.1 ≤ n ∧ n ≤ s.2
    · have h2 : ¬ In l n := fun hi => this ⟨hi, h1⟩
      simp [h1, h2]
    · simp [h1]
theorem meets_cut (l : List S) (s : S) : meets (cut l s) s = false := no_meets fun n ⟨h1, h2⟩ => ((in_cut l s n).1 h1).2 h2
theorem add_cut_back {l : List S} {s : S} (h : has l s = true) : add (cut l s) s = norm l :=
  Nrm.uniq (add_nrm _ _) (norm_ok l).1 fun n => by
    rw [in_add, in_cut, (norm_ok l).2 n]
    obtain ⟨hm, hi⟩ := has_in h
    by_cases h1 : s.1 ≤ n ∧ n ≤ s.2
    · simp [hm, h1, hi n h1.1 h1.2]
    · simp [h1]
theorem count_norm (l : List S) : count (norm l) = count l := by unfold count; rw [norm_norm]
theorem count_one {s : S} (h : mayB s = true) : count [s] = size s := by
  have : norm [s] = [s] := norm_self ⟨h, by simp, trivial⟩
  unfold count
  rw [this]
  simp [total]
theorem count_cut {l : List S} {s : S} (h : has l s = true) : count (cut l s) = count l - size s := by
  have h1 := count_add (cut l s) s
  rw [cut_cut, add_cut_back h, count_norm, count_one (has_in h).1] at h1
  omega

/-- the lowest run: none -/
theorem first_no {l : List S} {many : Int} (h : (first l many).2 = false) : first l many = ((0, 0), false) ∧ (many < 1 ∨ longest l < many) := by
  unfold first at h ⊢
  by_cases h1 : many < 1
  · rw [if_pos h1]; exact ⟨rfl, .inl h1⟩
  · rw [if_neg h1] at h ⊢
    cases hf : (norm l).find? fun s => decide (many ≤ size s) with
    | some s => rw [hf] at h; cases h
    | none =>
      refine ⟨rfl, .inr ?_⟩
      rw [List.find?_eq_none] at hf
      have : longest l ≤ many - 1 := most_le (by omega) fun s hs => by have := hf s hs; simp at this; omega
      omega
/-- the lowest run: there is one -/
theorem first_yes {l : List S} {many : Int} {f : S} (h : first l many = (f, true)) : has l f = true ∧ size f = many ∧ mayB f = true := by
  unfold first at h
  by_cases h1 : many < 1
  · rw [if_pos h1] at h; cases h
  · rw [if_neg h1] at h
    cases hf : (norm l).find? fun s => decide (many ≤ size s) with
    | none => rw [hf] at h; cases h
    | some s =>
      rw [hf] at h
      simp only [Prod.mk.injEq, and_true] at h
      subst h
      have hs := List.mem_of_find?_eq_some hf
      have hc := List.find?_some hf
      have hc : many ≤ s.2 - s.1 + 1 := of_decide_eq_true hc
      obtain ⟨a1, a2, a3⟩ := mayB_iff.1 ((norm_ok l).1.may s hs)
      have hm : mayB (s.1, s.1 + many - 1) = true := mayB_iff.2 ⟨a1, by simp only; omega, by simp only; omega⟩
      refine ⟨?_, by simp only [size]; omega, hm⟩
      simp only [has, hm, Bool.true_and, List.any_eq_true, Bool.and_eq_true, decide_eq_true_eq]
      exact ⟨s, hs, Int.le_refl _, by omega⟩

theorem nrm_step : ∀ {m : List S}, Nrm m → ∀ {i : Nat} (h : i + 1 < m.length), m[i].2 + 1 < m[i + 1].1
  | s :: r, hm, 0, h => by
    have hr : 0 < r.length := by simpa using h
    simpa using hm.2.1 r[0] (List.getElem_mem _)
  | s :: r, hm, i + 1, h => by
    have := nrm_step hm.2.2 (i := i) (by simpa using h)
    simpa using this

theorem inB_norm (l : List S) (n : Int) : inB (norm l) n = inB l n := inB_of (inB_iff.trans ((norm_ok l).2 n).symm)
theorem inB_add (l : List S) (s : S) (n : Int) : inB (add l s) n = (inB l n || inB [s] n) :=
  inB_of (by rw [Bool.or_eq_true, inB_iff, inB_iff, in_add, in_one])
theorem inB_cut (l : List S) (s : S) (n : Int) : inB (cut l s) n = (inB l n && !inB [s] n) :=
  inB_of (by
    rw [Bool.and_eq_true, inB_iff, in_cut, ← in_one, ← inB_iff (l := [s])]
    cases inB [s] n <;> simp)
end Go.Proofs.Ytbeombmblifohaa.Sp
