/- A drawn region by hand: two operations that may come up. -/
import Derived.Test.YtilahcnpjbnjiaaDoorHeldS
namespace Go.Proofs.YtilahcnpjbnjiaaDoor
open Go Go.RowKit
section
variable {P : Program} {ops : Array Oper} {Q : Exit → Act → World → Prop} {md : Region.Mode} {S : World → Prop}
theorem held_two {i j : Nat} {o p : Oper} {fuel : Nat} {listed : Array Bool} {a : Act} {w : World} (ho : ops[i]? = some o) (hp : ops[j]? = some p) (hr : Region.ready md ops listed = [i, j]) (hw : Region.wanted o (yielded ops a.tmps) = true) (hw2 : Region.wanted p (yielded ops a.tmps) = true)
    (h : ∀ K' : Act → World → Prop, Shut (∀ a w, S w → (S w → wpAnyH P md ops Q S fuel (listed.setIfInBounds i true) a w) → K' a w) → Oper.wp P o a w K' Q)
    (h2 : ∀ K' : Act → World → Prop, Shut (∀ a w, S w → (S w → wpAnyH P md ops Q S fuel (listed.setIfInBounds j true) a w) → K' a w) → Oper.wp P p a w K' Q) : wpAnyH P md ops Q S (fuel + 1) listed a w :=
  wpAnyH_ready hr (by simp) (AllReadyH.cons ho (fun K hK => by rw [if_pos hw]; exact h K hK) (AllReadyH.cons hp (fun K hK => by rw [if_pos hw2]; exact h2 K hK) AllReadyH.nil))
end
end Go.Proofs.YtilahcnpjbnjiaaDoor
