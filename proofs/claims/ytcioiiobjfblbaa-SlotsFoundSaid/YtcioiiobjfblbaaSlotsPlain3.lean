/- What is left where labels come and go, one by one. -/
import Derived.Test.YtcioiiobjfblbaaSlotsPlain
namespace Go.Proofs.Ytcioiiobjfblbaa.Sl
set_option linter.unusedVariables false
set_option linter.unusedSimpArgs false

/-- step j: label L j comes with j; then, if j < g, label G j goes -/
def stp (L G : Nat → Int) (g : Nat) (n last : Int) (j : Nat) : Int := if j < g ∧ G j = n then -1 else if L j = n then (j : Int) else last
def lst (L G : Nat → Int) (g : Nat) (n : Int) : Nat → Int
  | 0 => -1
  | k + 1 => stp L G g n (lst L G g n k) k
def gon (M : List It) (n : Int) : List It := if hasB M n = true then del M n else M
def run (L G : Nat → Int) (g : Nat) : Nat → List It
  | 0 => []
  | k + 1 => if k < g then gon (put (run L G g k) (L k) k) (G k) else put (run L G g k) (L k) k

theorem rise_gon {M : List It} (h : Rise M) (n : Int) : Rise (gon M n) := by unfold gon; split; exact rise_del h n; exact h
theorem mem_gon {M : List It} (h : Rise M) (n : Int) (x : It) : x ∈ gon M n ↔ x ∈ M ∧ x.1 ≠ n := by
  unfold gon
  split
  · rename_i hh; exact mem_del h hh x
  · rename_i hh
    constructor
    · intro hx
      refine ⟨hx, ?_⟩
      rintro rfl
      exact hh ((has_iff h _).2 ⟨x.2, hx⟩)
    · exact And.left
theorem gon_len (M : List It) (n : Int) : (gon M n).length ≤ M.length := by
  unfold gon
  split
  · rename_i h; have := length_del h; omega
  · exact Nat.le_refl _
theorem run_rise (L G : Nat → Int) (g : Nat) : ∀ k, Rise (run L G g k)
  | 0 => List.Pairwise.nil
  | k + 1 => by
    unfold run
    split
    · exact rise_gon (rise_put (run_rise L G g k) _ _) _
    · exact rise_put (run_rise L G g k) _ _
theorem put_len (M : List It) (a b : Int) : (put M a b).length ≤ M.length + 1 := by rw [length_put]; split <;> omega
theorem run_len (L G : Nat → Int) (g : Nat) : ∀ k, (run L G g k).length ≤ k
  | 0 => Nat.le_refl _
  | k + 1 => by
    have h1 := run_len L G g k
    have h2 := put_len (run L G g k) (L k) k
    unfold run
    split
    · have h3 := gon_len (put (run L G g k) (L k) k) (G k); omega
    · omega
theorem run_mem (L G : Nat → Int) (g : Nat) (n : Int) : ∀ k v, (n, v) ∈ run L G g k ↔ lst L G g n k = v ∧ 0 ≤ v
  | 0, v => by simp [run, lst]; omega
  | k + 1, v => by
    have ih := run_mem L G g n k v
    have hr := run_rise L G g k
    have hp : (n, v) ∈ put (run L G g k) (L k) k ↔ (if L k = n then (k : Int) else lst L G g n k) = v ∧ 0 ≤ v := by
      rw [mem_put hr, ih]
      by_cases h : L k = n
      · subst h
        simp
        constructor
        · rintro rfl; omega
        · rintro ⟨rfl, _⟩; rfl
      · rw [if_neg h]
        constructor
        · rintro (e | ⟨e, _⟩)
          · injection e with e1 _; exact absurd e1.symm h
          · exact e
        · intro e; exact .inr ⟨e, fun e' => h e'.symm⟩
    show (n, v) ∈ (if k < g then gon (put (run L G g k) (L k) k) (G k) else put (run L G g k) (L k) k) ↔ stp L G g n (lst L G g n k) k = v ∧ 0 ≤ v
    by_cases hk : k < g
    · rw [if_pos hk, mem_gon (rise_put hr _ _), hp]
      by_cases hg : G k = n
      · have e : stp L G g n (lst L G g n k) k = -1 := if_pos ⟨hk, hg⟩
        rw [e]
        subst hg
        simp
        omega
      · have e : stp L G g n (lst L G g n k) k = if L k = n then (k : Int) else lst L G g n k := if_neg (fun h => hg h.2)
        rw [e]
        simp only [ne_eq, show ¬ n = G k from fun e => hg e.symm, not_false_eq_true, and_true]
    · have e : stp L G g n (lst L G g n k) k = if L k = n then (k : Int) else lst L G g n k := if_neg (fun h => hk h.1)
      rw [if_neg hk, e]
      exact hp
theorem lst_range (L G : Nat → Int) (g : Nat) (n : Int) : ∀ k, -1 ≤ lst L G g n k ∧ lst L G g n k < (k : Int) + 1
  | 0 => by simp [lst]
  | k + 1 => by
    have := lst_range L G g n k
    unfold lst stp
    split
    · omega
    · split <;> omega
theorem run_has (L G : Nat → Int) (g : Nat) (n : Int) (k : Nat) : hasB (run L G g k) n = decide (0 ≤ lst L G g n k) := by
  have h := has_iff (run_rise L G g k) n
  by_cases h0 : 0 ≤ lst L G g n k
  · rw [h.2 ⟨_, (run_mem L G g n k _).2 ⟨rfl, h0⟩⟩]; simp [h0]
  · cases hh : hasB (run L G g k) n
    · simp [h0]
    · obtain ⟨v, hv⟩ := h.1 hh
      have := (run_mem L G g n k v).1 hv
      omega
theorem run_got (L G : Nat → Int) (g : Nat) (n : Int) (k : Nat) (h0 : 0 ≤ lst L G g n k) : got (run L G g k) n = lst L G g n k :=
  got_of (run_rise L G g k) ((run_mem L G g n k _).2 ⟨rfl, h0⟩)
end Go.Proofs.Ytcioiiobjfblbaa.Sl
