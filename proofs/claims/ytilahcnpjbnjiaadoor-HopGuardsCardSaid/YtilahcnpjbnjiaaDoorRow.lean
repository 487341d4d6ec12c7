/- The rows: what came in reads again behind a call that turned nothing older; one result, true. -/
import Derived.Test.YtilahcnpjbnjiaaDoorRows
import Derived.Test.YtilahcnpjbnjiaaDoorBase
import Derived.WalkKit
import Derived.ProofKit
import Derived.OpenShut
import Derived.Carry
import Derived.Deep.SlicePairs
import Derived.Lib.SmallJoins
import Derived.JoinedOf
import Derived.WideWitness
namespace Go.Proofs.YtilahcnpjbnjiaaDoor
set_option linter.unusedSimpArgs false
open Go.ChangeShapes Go.WideShapes Go.ChangeAt Go.RowKit Go.Deep Go.Joins
set_option linter.unusedVariables false

theorem own : ownKnob Tryd.prog.godebug = none := by kernel_rfl
theorem laidOut : laidOutB Tryd.prog = true := by kernel_rfl

section
variable {H : Type} {enc : TypeId × Value → H}

theorem below_trodAll {P : Program} (hl : laidOutB P = true) {W W' : World} (hb : Below W.heap.size W W') :
    ∀ {ts : List TypeId} {vs : List Value} {ds : List (DataW H)} {ps : List MemPlace}, (ts.all fun t => P.readableRec t && decide (t < P.types.size)) = true →
      DataW.TrodAll enc P W 0 (fun _ => true) true ts vs ds ps → (∀ x ∈ ps, x.block < W.heap.size) → DataW.TrodAll enc P W' 0 (fun b => decide (b < W.heap.size)) true ts vs ds ps
  | [], [], [], _, _, h, _ => h
  | t :: ts, v :: vs, d :: ds, ps, hr, ⟨p, q, h1, h2, e⟩, hlt => by
    subst e
    simp only [List.all_cons, Bool.and_eq_true, decide_eq_true_eq] at hr
    exact ⟨p, q, Below.trod hl hr.1.1 hr.1.2 h1 hb (fun x hx => hlt x (List.mem_append_left _ hx)), below_trodAll hl hb hr.2 h2 (fun x hx => hlt x (List.mem_append_right _ hx)), rfl⟩
  | [], _ :: _, _, _, _, h, _ => h.elim
  | [], [], _ :: _, _, _, h, _ => h.elim
  | _ :: _, [], _, _, _, h, _ => h.elim
  | _ :: _, _ :: _, [], _, _, h, _ => h.elim

/-- the law's answer: true, and all reads as it did -/
theorem post_true {f : Func} {s : ChangeSpec} {W W' : World} {args : Array Value} {ds gs : List (DataW H)} {before p q : List MemPlace}
    (hW : DataW.Whole enc Tryd.prog f.params.toList s.vars false W args.toList ds gs before)
    (hA : DataW.TrodAll enc Tryd.prog W 0 (fun _ => true) true f.params.toList args.toList ds p) (hbe : before = p ++ q)
    (hv : s.vars = []) (hr : f.resultTypes = #[4]) (hp : (f.params.toList.all fun t => Tryd.prog.readableRec t && decide (t < Tryd.prog.types.size)) = true)
    (hs : s.fn H (ds ++ gs) = { results := [.lit (.bool true)], args := ds })
    (hb : Below W.heap.size W W') : s.post enc Tryd.prog f false true false false W args (.bool true) W' := by
  refine ⟨ds, gs, before, [], p, [], hW, ?_, ?_, ?_, hb.frame _, fun h => by cases h⟩
  · rw [hs, hr]
    exact ⟨[], [], ⟨1, by simp [DataW.trod, Value.cells, Tryd.underlying4]⟩, rfl, rfl⟩
  · rw [hs]
    exact below_trodAll laidOut hb hp hA (fun x hx => by simpa using hW.lt x (by rw [hbe]; exact List.mem_append_left _ hx))
  · rw [hs, hv]
    rfl

theorem list_of_cells {W : World} {b off : Nat} : ∀ (n : Nat), (∀ i, i < n → ∃ x y : Int, W.cell? ⟨b, off + i * 2, none⟩ = some (.int .i64 x) ∧ W.cell? ⟨b, off + (i * 2 + 1), none⟩ = some (.int .i64 y)) →
    ∃ l : List (Int × Int), l.length = n ∧ ∀ i s, l[i]? = some s → W.cell? ⟨b, off + i * 2, none⟩ = some (.int .i64 s.1) ∧ W.cell? ⟨b, off + (i * 2 + 1), none⟩ = some (.int .i64 s.2)
  | 0, _ => ⟨[], rfl, fun i s h => by simp at h⟩
  | n + 1, h => by
    obtain ⟨l, hl, hc⟩ := list_of_cells n fun i hi => h i (by omega)
    obtain ⟨x, y, hx, hy⟩ := h n (by omega)
    refine ⟨l ++ [(x, y)], by simp [hl], fun i s hs => ?_⟩
    by_cases hi : i < l.length
    · rw [List.getElem?_append_left hi] at hs
      exact hc i s hs
    · have hin : i = n := by
        have := (List.getElem?_eq_some_iff.1 hs).1
        simp at this
        omega
      subst hin
      rw [List.getElem?_append_right (by omega)] at hs
      simp [hl] at hs
      subst hs
      exact ⟨hx, hy⟩
end
end Go.Proofs.YtilahcnpjbnjiaaDoor
