/- What a sorted row's world is, in the words of ownsRow. -/
import Derived.Test.YtilahcnpjbnjiaaGreatDoorMBase
import Derived.Shelf.SlSortCmp.WholeK
namespace Go.Proofs.YtilahcnpjbnjiaaGreatDoor
set_option linter.unusedVariables false
set_option linter.unusedSimpArgs false
open Go.RowKit Go.Shelf Go.Lib Go.Sort Go.Proofs

section
variable {α : Type} [Inhabited α] {enc : α → List Value} {k : Nat}

theorem flatK_toList (hk : ∀ x, (enc x).length = k) (d : Array α) : (flatK enc k d).toList = flat enc d.toList := by
  by_cases h0 : k = 0
  · subst h0
    have h1 : (flatK enc 0 d).toList = [] := by apply List.eq_nil_of_length_eq_zero; simp
    have h2 : flat enc d.toList = [] := by apply List.eq_nil_of_length_eq_zero; rw [flat_length hk]; simp
    rw [h1, h2]
  apply List.ext_getElem?
  intro t
  by_cases ht : t < d.size * k
  · have hkp : 0 < k := by omega
    have hq : t / k < d.size := Nat.div_lt_of_lt_mul (by rw [Nat.mul_comm]; exact ht)
    have hm : t % k < (enc d[t / k]!).length := by rw [hk]; exact Nat.mod_lt _ hkp
    have hx : d.toList[t / k]? = some d[t / k]! := by simp [hq]
    have hfl := flat_at hk hx (List.getElem?_eq_getElem hm)
    have hj : t / k * k + t % k = t := by rw [Nat.mul_comm]; exact Nat.div_add_mod t k
    rw [hj] at hfl
    rw [hfl]
    have hg := get_flatK enc k d t ht
    have hsz : t < (flatK enc k d).toList.length := by simpa using ht
    rw [List.getElem?_eq_getElem hsz]
    congr 1
    have : (flatK enc k d)[t]! = (flatK enc k d).toList[t] := by rw [getElem!_pos _ t (by simpa using ht)]; simp
    rw [← this, hg, getElem!_pos (enc d[t / k]!) (t % k) hm]
  · have h1 : (flatK enc k d).toList.length ≤ t := by simp; omega
    have h2 : (flat enc d.toList).length ≤ t := by rw [flat_length hk]; simp; omega
    rw [List.getElem?_eq_none h1, List.getElem?_eq_none h2]

/-- a row that the call owns, as the sort takes it -/
theorem holds_of_owns {w : World} {B : Nat} {e : TypeId} {v : Value} {zs : List α} {g cap : Nat} (hk : ∀ x, (enc x).length = k) (h : w.ownsRow B e k v zs.length (flat enc zs)) (hv : v = .slice (some ⟨g, 0, none⟩) zs.length cap) :
    HoldsK enc k w g 0 zs.toArray := by
  rcases h.2 with ⟨rfl, _⟩ | ⟨g', cap', cur, hv', hb, hg, hn, hc, hs, ht⟩
  · cases hv
  · rw [hv] at hv'; cases hv'
    unfold HoldsK Holds
    intro j hj
    have hfl := flatK_toList hk zs.toArray
    simp at hj
    have hjl : j < (flatK enc k zs.toArray).toList.length := by simpa using hj
    have hgj : (flat enc zs)[j]? = some (flatK enc k zs.toArray)[j]! := by
      have h1 : flat enc zs = (flatK enc k zs.toArray).toList := hfl.symm
      rw [h1, List.getElem?_eq_getElem hjl, getElem!_pos (flatK enc k zs.toArray) j (by simpa using hj)]
      simp
    refine ⟨?_, by simp [World.frozen?, hg]⟩
    have := h.cells (g := g) (by rw [hv]; rfl) j _ hgj
    have hadd : (⟨g, 0, none⟩ : Addr).add j = ⟨g, j, none⟩ := by unfold Addr.add; split <;> simp_all
    rw [hadd] at this
    simpa using this

/-- the world behind the sort: the row holds d, new blocks, nothing else has turned -/
theorem owns_of_sort {w : World} {B : Nat} {e : TypeId} {v : Value} {zs : List α} {g cap : Nat} (hk : ∀ x, (enc x).length = k) (h : w.ownsRow B e k v zs.length (flat enc zs)) (hv : v = .slice (some ⟨g, 0, none⟩) zs.length cap)
    (d : Array α) (hd : d.size = zs.length) (n : Nat) (os : Array Obj) :
    (sortWorldK enc k w g 0 n d os).ownsRow B e k v d.toList.length (flat enc d.toList) ∧ w.grownBy (sortWorldK enc k w g 0 n d os) (some g) := by
  rcases h.2 with ⟨rfl, _⟩ | ⟨g', cap', cur, hv', hb, hg, hn, hc, hs, ht⟩
  · cases hv
  · rw [hv] at hv'; cases hv'
    have hgl := (Array.getElem?_eq_some_iff.1 hg).1
    have hheap : ∀ j, j < w.heap.size → (sortWorldK enc k w g 0 n d os).heap[j]? = (w.heap.modify g (onCells (putCells id 0 (flatK enc k d))))[j]? := by
      intro j hj
      unfold sortWorldK putRowK putRow mapBlock grow
      show (Array.modify w.heap g _ ++ os)[j]? = _
      rw [Array.getElem?_append_left (by simpa using hj)]
    refine ⟨⟨by rw [flat_length hk], .inr ⟨g, cap, putCells id 0 (flatK enc k d) cur, by rw [hv]; simp [hd], hb, ?_, by simp [hd]; exact hn, hc, by simp [putCells, hs], ?_⟩⟩, ⟨rfl, rfl, rfl, by simp [sortWorldK, putRowK, putRow, mapBlock, grow, Sort.ahead], ?_⟩⟩
    · rw [hheap g hgl, Array.getElem?_modify, if_pos rfl, hg]; rfl
    · have hfl := flatK_toList hk d
      rw [← hfl]
      apply List.ext_getElem?
      intro t
      by_cases h1 : t < d.size * k
      · have hc' : t < cur.size := by
          rw [hs]
          exact Nat.lt_of_lt_of_le h1 (Nat.mul_le_mul_right _ (by omega))
        rw [List.getElem?_take, if_pos (by simpa using h1)]
        simp only [putCells, Array.getElem?_toList, Array.getElem?_mapIdx, Array.getElem?_eq_getElem hc', Option.map_some]
        rw [if_pos ⟨Nat.zero_le _, by simpa using h1⟩, Array.getElem?_eq_getElem (by simpa using h1), getElem!_pos _ _ (by simpa using h1)]
        simp
      · rw [List.getElem?_eq_none (by simp; omega), List.getElem?_eq_none (by simp; omega)]
    · intro j hj hne
      rw [hheap j hj, Array.getElem?_modify, if_neg (fun e => hne (by rw [e]))]

theorem perm_of_in {d d' : Array α} (h : PermIn 0 d.size d d') : d'.toList.Perm d.toList := by
  have h1 := h.2.2
  have hs := h.1
  rw [Array.extract_eq_self_of_le (by omega), Array.extract_eq_self_of_le (by omega)] at h1
  exact h1
end
end Go.Proofs.YtilahcnpjbnjiaaGreatDoor
