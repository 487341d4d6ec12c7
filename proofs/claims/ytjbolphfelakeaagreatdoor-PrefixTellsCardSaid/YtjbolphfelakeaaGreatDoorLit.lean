/- Literals of slices; what an alloc leaves. -/
import Derived.Test.YtjbolphfelakeaaGreatDoorOctetFns
namespace Go.Proofs.YtjbolphfelakeaaGreatDoor
set_option linter.unusedVariables false
set_option linter.unusedSimpArgs false
open Go.RowKit Go.Shelf Go.Proofs

theorem slr_lit {α : Type} {enc : α → List Value} {k : Nat} (hk : ∀ x, (enc x).length = k) (w : World) (e : TypeId) (xs : List α) (hl : xs.length ≤ 1048576) (cs : Array Value) (hcs : cs = (flat enc xs).toArray) :
    SlR (w.alloc (.cells cs e)) k enc (.slice (some ⟨w.heap.size, 0, none⟩) xs.length xs.length) xs := by
  subst hcs
  refine ⟨_, _, rfl, Nat.le_refl _, by omega, (fun h => by cases h), fun a ha => ?_⟩
  cases ha
  refine ⟨rfl, by simp, fun i x hx j u hu => ?_⟩
  have h := cell_new_list w (flat enc xs) e (i * k + j) u (flat_at hk hx hu)
  have hadd : (⟨w.heap.size, 0, none⟩ : Addr).add (i * k + j) = ⟨w.heap.size, 0 + i * k + j, none⟩ := by unfold Addr.add; split <;> simp_all [Nat.add_assoc]
  rw [hadd] at h
  exact h

theorem belowA (W : World) (o : Obj) : Below W.heap.size W (W.alloc o) := (Below.refl W.heap.size _).alloc (Nat.le_refl _) _
theorem belowA2 {W W' : World} {o : Obj} (h : Below (W.alloc o).heap.size (W.alloc o) W') : Below W.heap.size W W' := (belowA W o).trans (h.mono (by simp))
end Go.Proofs.YtjbolphfelakeaaGreatDoor
