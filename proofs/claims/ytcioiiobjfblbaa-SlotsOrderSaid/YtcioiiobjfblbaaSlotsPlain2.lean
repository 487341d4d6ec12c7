/- What is there in a row of slots, sorted. -/
import Derived.Test.YtcioiiobjfblbaaSlotsPlain
namespace Go.Proofs.Ytcioiiobjfblbaa.Sl
set_option linter.unusedVariables false
set_option linter.unusedSimpArgs false

def item1 (x : Slt) : Option It := if x.1 = 2 then some (x.2.1, x.2.2) else none
def items (s : List Slt) : List It := s.filterMap item1
theorem items_mem (s : List Slt) (x : It) : x ∈ items s ↔ ((2, x.1, x.2) : Slt) ∈ s := by
  unfold items
  rw [List.mem_filterMap]
  constructor
  · rintro ⟨⟨a, b, c⟩, h1, h2⟩
    unfold item1 at h2
    split at h2
    · rename_i h
      simp only at h
      cases h2
      subst h
      exact h1
    · cases h2
  · intro h
    exact ⟨_, h, by simp [item1]⟩
theorem items_take {s : List Slt} {k : Nat} (hk : k < s.length) : items (s.take (k + 1)) = items (s.take k) ++ (item1 s[k]).toList := by
  unfold items
  rw [List.take_succ_eq_append_getElem hk, List.filterMap_append]
  congr 1
theorem items_length (s : List Slt) : (items s).length ≤ s.length := List.length_filterMap_le _ _
theorem items_pw {H : Int → Nat → Nat} {s : List Slt} {R : It → Prop} (t : Tbl H s R) : (items s).Pairwise fun a b => a.1 ≠ b.1 := by
  unfold items
  rw [List.pairwise_filterMap]
  refine List.pairwise_iff_getElem.2 fun i j hi hj hij a ha b hb e => ?_
  have hx : s[i]? = some (2, a.1, a.2) := by
    rw [List.getElem?_eq_getElem hi]
    unfold item1 at ha
    split at ha
    · rename_i h; cases ha; rw [← h]
    · cases ha
  have hy : s[j]? = some (2, a.1, b.2) := by
    rw [List.getElem?_eq_getElem hj, e]
    unfold item1 at hb
    split at hb
    · rename_i h; cases hb; rw [← h]
    · cases hb
  have := t.uniq i j _ _ _ hx hy
  omega
theorem sorted_eq {H : Int → Nat → Nat} {s : List Slt} {M : List It} (t : Tbl H s (· ∈ M)) (hM : Rise M) {d : List It} (hp : d.Perm (items s)) (hs : d.Pairwise fun a b => a.1 ≤ b.1) : d = M := by
  have hd : d.Pairwise fun a b => a.1 ≠ b.1 := hp.symm.pairwise (items_pw t) (fun h => fun e => h e.symm)
  have hr : Rise d := by
    have := List.pairwise_and_iff.2 ⟨hs, hd⟩
    exact this.imp fun h => by have := h.1; have := h.2; omega
  refine rise_uniq hr hM fun x => ?_
  rw [hp.mem_iff, items_mem]
  exact (t.mem x.1 x.2).symm
end Go.Proofs.Ytcioiiobjfblbaa.Sl
