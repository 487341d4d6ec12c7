import Derived.Test.YtilahcnpjbnjiaaGreatDoorRows
import Derived.Test.YtilahcnpjbnjiaaGreatDoorMBase
import Derived.WalkKit
import Derived.ProofKit
import Derived.OpenShut
import Derived.Carry
import Derived.Deep.SlicePairs
import Derived.Lib.SmallJoins
import Derived.JoinedOf
import Derived.WideWitness
import Derived.Deep.Slices
/- The rows: what came in reads again behind a call that turned nothing older; one result, true. -/
namespace Go.Proofs.YtilahcnpjbnjiaaGreatDoor
set_option linter.unusedSimpArgs false
open Go.ChangeShapes Go.WideShapes Go.ChangeAt Go.RowKit Go.Deep Go.Joins
set_option linter.unusedVariables false

theorem own : ownKnob Tryz.prog.godebug = none := by kernel_rfl
theorem laidOut : laidOutB Tryz.prog = true := by kernel_rfl

section
variable {H : Type} {enc : TypeId × Value → H}

theorem below_trodAll {P : Program} (hl : laidOutB P = true) {W W' : World} (hb : Below W.heap.size W W') :
    ∀ {ts : List TypeId} {vs : List Value} {ds : List (DataW H)} {ps : List MemPlace}, (ts.all fun t => P.readableRec t && decide (t < P.types.size)) = true →
      DataW.TrodAll enc P W 0 (fun _ => true) true ts vs ds ps → (∀ x ∈ ps, x.block < W.heap.size) → DataW.TrodAll enc P W' 0 (fun b => decide (b < W.heap.size)) true ts vs ds ps
  | [], [], [], _, _, h, _ => h
  | t :: ts, v :: vs, d :: ds, ps, hr, ⟨p, q, h1, h2, e⟩, hlt => by
    subst e
    simp only [List.all_cons, Bool.and_eq_true, decide_eq_true_eq] at hr
    exact ⟨p, q, Below.trod hl hr.1.1 hr.1.2 h1 hb (fun x hx => hlt x (List.mem_append_left _ hx)), below_trodAll hl hb hr.2 h2 (fun x hx => hlt x (List.mem_append_right _ hx)), rfl⟩
  | [], _ :: _, _, _, _, h, _ => h.elim
  | [], [], _ :: _, _, _, h, _ => h.elim
  | _ :: _, [], _, _, _, h, _ => h.elim
  | _ :: _, _ :: _, [], _, _, h, _ => h.elim

/-- the law's answer: true, and all reads as it did -/
theorem post_true {f : Func} {s : ChangeSpec} {W W' : World} {args : Array Value} {ds gs : List (DataW H)} {before p q : List MemPlace}
    (hW : DataW.Whole enc Tryz.prog f.params.toList s.vars false W args.toList ds gs before)
    (hA : DataW.TrodAll enc Tryz.prog W 0 (fun _ => true) true f.params.toList args.toList ds p) (hbe : before = p ++ q)
    (hv : s.vars = []) (hr : f.resultTypes = #[4]) (hp : (f.params.toList.all fun t => Tryz.prog.readableRec t && decide (t < Tryz.prog.types.size)) = true)
    (hs : s.fn H (ds ++ gs) = { results := [.lit (.bool true)], args := ds })
    (hb : Below W.heap.size W W') : s.post enc Tryz.prog f false true false false W args (.bool true) W' := by
  refine ⟨ds, gs, before, [], p, [], hW, ?_, ?_, ?_, hb.frame _, fun h => by cases h⟩
  · rw [hs, hr]
    exact ⟨[], [], ⟨1, by simp [DataW.trod, Value.cells, Tryz.underlying4]⟩, rfl, rfl⟩
  · rw [hs]
    exact below_trodAll laidOut hb hp hA (fun x hx => by simpa using hW.lt x (by rw [hbe]; exact List.mem_append_left _ hx))
  · rw [hs, hv]
    rfl

theorem list_of_cells {W : World} {b off : Nat} : ∀ (n : Nat), (∀ i, i < n → ∃ x y : Int, W.cell? ⟨b, off + i * 2, none⟩ = some (.int .i64 x) ∧ W.cell? ⟨b, off + (i * 2 + 1), none⟩ = some (.int .i64 y)) →
    ∃ l : List (Int × Int), l.length = n ∧ ∀ i s, l[i]? = some s → W.cell? ⟨b, off + i * 2, none⟩ = some (.int .i64 s.1) ∧ W.cell? ⟨b, off + (i * 2 + 1), none⟩ = some (.int .i64 s.2)
  | 0, _ => ⟨[], rfl, fun i s h => by simp at h⟩
  | n + 1, h => by
    obtain ⟨l, hl, hc⟩ := list_of_cells n fun i hi => h i (by omega)
    obtain ⟨x, y, hx, hy⟩ := h n (by omega)
    refine ⟨l ++ [(x, y)], by simp [hl], fun i s hs => ?_⟩
    by_cases hi : i < l.length
    · rw [List.getElem?_append_left hi] at hs
      exact hc i s hs
    · have hin : i = n := by
        have := (List.getElem?_eq_some_iff.1 hs).1
        simp at this
        omega
      subst hin
      rw [List.getElem?_append_right (by omega)] at hs
      simp [hl] at hs
      subst hs
      exact ⟨hx, hy⟩
end
end Go.Proofs.YtilahcnpjbnjiaaGreatDoor

/- An argument that is a slice of structs of three ints; one that is a slice of unsigned numbers. -/
namespace Go.Proofs.YtilahcnpjbnjiaaGreatDoor
set_option linter.unusedSimpArgs false
set_option linter.unusedVariables false
open Go.ChangeShapes Go.WideShapes Go.ChangeAt Go.RowKit Go.Deep Go.Joins
section
variable {H : Type} {enc : TypeId × Value → H}

theorem list_at {α : Type} {Q : Nat → α → Prop} : ∀ (n : Nat), (∀ i, i < n → ∃ x, Q i x) → ∃ l : List α, l.length = n ∧ ∀ i x, l[i]? = some x → Q i x
  | 0, _ => ⟨[], rfl, fun i x h => by simp at h⟩
  | n + 1, h => by
    obtain ⟨l, hl, hc⟩ := list_at n fun i hi => h i (by omega)
    obtain ⟨x, hx⟩ := h n (by omega)
    refine ⟨l ++ [x], by simp [hl], fun i s hs => ?_⟩
    by_cases hi : i < l.length
    · rw [List.getElem?_append_left hi] at hs
      exact hc i s hs
    · have hin : i = n := by
        have := (List.getElem?_eq_some_iff.1 hs).1
        simp at this
        omega
      subst hin
      rw [List.getElem?_append_right (by omega)] at hs
      simp [hl] at hs
      subst hs
      exact hx

/-- whatever the elements: a list of them, if each one's cells are one's -/
theorem sl_of_arg {α : Type} {ec : α → List Value} {k : Nat} (hk : ∀ x, (ec x).length = k) {P : Program} {t e : TypeId} (ht : P.underlying t = some (.slice e)) (ce : P.cellsOf e = k)
    {W : World} {base : Nat} {v : Value} {d : DataW H} {ps : List MemPlace} (hv : Value.okWide P W .any base t v) (h : DataW.Trod enc P W 0 (fun _ => true) true t v d ps)
    (hel : ∀ (fuel : Nat) (cs : List Value) (x : DataW H × List MemPlace), cs.length = k → DataW.trod enc P W 0 (fun _ => true) true fuel e cs = some x → ∃ y : α, cs = ec y) : ∃ l : List α, SlR W k ec v l := by
  have hok : Cell.ok P W .any base t v := by
    have h1 := hv
    simp only [Value.okWide, ht, Cell.okWide] at h1
    exact h1
  obtain ⟨a0, len0, cap0, rfl⟩ := okWide_slice ht hv
  obtain ⟨fuel, hf⟩ := h
  rcases open_slice ht hf with ⟨hcs, hx⟩ | ⟨a, len, cap, m, n, D, Pl, hcs, hb, hl, hm, hmm, hx, hcell⟩
  · simp [Value.cells] at hcs
    obtain ⟨rfl, rfl, rfl⟩ := hcs
    exact ⟨[], none, 0, rfl, Nat.le_refl _, by omega, fun _ => rfl, fun a ha => by cases ha⟩
  · simp [Value.cells] at hcs
    obtain ⟨rfl, rfl, rfl⟩ := hcs
    simp only [Cell.ok, ht] at hok
    obtain ⟨h1, h2, _, hsp, row, cells, hsh, _⟩ := hok
    obtain ⟨b, off, spot⟩ := a
    simp only at hsp
    subst hsp
    have hlt : b < W.heap.size := by
      unfold World.shape? at hsh
      cases hh : W.heap[b]? with
      | none => simp [hh] at hsh
      | some o => exact (Array.getElem?_eq_some_iff.1 hh).1
    have hadd : ∀ o i, (⟨b, o, none⟩ : Addr).add i = ⟨b, o + i, none⟩ := fun o i => by unfold Addr.add; split <;> simp_all
    obtain ⟨l, hll, hlc⟩ := list_at (Q := fun i (x : α) => ∀ j u, (ec x)[j]? = some u → W.cell? ⟨b, off + i * k + j, none⟩ = some u) len0 (fun i hi => by
      have hlm : i < m := by rw [hmm]; simp only [if_true]; omega
      obtain ⟨cs, hc, htr⟩ := hcell i hlm
      rw [ce] at hc
      obtain ⟨_, hcl, hat⟩ := World.cells?_some hc
      obtain ⟨y, rfl⟩ := hel _ cs _ hcl htr
      refine ⟨y, fun j u hu => ?_⟩
      have hj : j < k := by have := (List.getElem?_eq_some_iff.1 hu).1; rw [hk] at this; exact this
      have := hat j hj
      rw [hadd, hadd, hu] at this
      rw [← this])
    refine ⟨l, some ⟨b, off, none⟩, cap0, by rw [hll], by omega, by unfold maxLen at hm; omega, (fun e => by cases e), fun a ha => ?_⟩
    cases ha
    exact ⟨rfl, hlt, fun i s hs j u hu => hlc i s hs j u hu⟩
/-- one int -/
theorem el_int {P : Program} {q : TypeId} {ik : IntKind} (hq : P.underlying q = some (.int ik)) {W : World} (fuel : Nat) (cs : List Value) (x : DataW H × List MemPlace) (hl : cs.length = 1) (h : DataW.trod enc P W 0 (fun _ => true) true fuel q cs = some x) : ∃ y : Int, cs = [.int ik y] ∧ (Lit.int ik y).wf = true := by
  match cs, hl with
  | [v], _ =>
    obtain ⟨y, e0, _, h2⟩ := DataW.trod_int hq h
    simp at e0
    subst e0
    exact ⟨y, rfl, h2⟩
/-- a struct of three ints -/
theorem el_int3 {P : Program} {e q : TypeId} {f0 f1 f2 : Field} (he : P.underlying e = some (.struct #[f0, f1, f2])) (o0 : f0.offset = 0) (o1 : f1.offset = 1) (o2 : f2.offset = 2) (t0 : f0.type = q) (t1 : f1.type = q) (t2 : f2.type = q) (cq : P.cellsOf q = 1)
    (hq : P.underlying q = some (.int .i64)) {W : World} (fuel : Nat) (cs : List Value) (x : DataW H × List MemPlace) (hl : cs.length = 3) (h : DataW.trod enc P W 0 (fun _ => true) true fuel e cs = some x) : ∃ y : Int × Int × Int, cs = [.int .i64 y.1, .int .i64 y.2.1, .int .i64 y.2.2] := by
  obtain ⟨ys, n', hn', hy, hlen, hyl, hf⟩ := DataW.trod_struct he h
  match ys, hyl, cs, hl with
  | [y0, y1, y2], _, [v0, v1, v2], _ =>
    have g0 := hf 0 f0 rfl
    have g1 := hf 1 f1 rfl
    have g2 := hf 2 f2 rfl
    simp [o0, o1, o2, t0, t1, t2, cq] at g0 g1 g2
    obtain ⟨a, e0, _⟩ := el_int hq _ _ _ rfl g0
    obtain ⟨b, e1, _⟩ := el_int hq _ _ _ rfl g1
    obtain ⟨c, e2, _⟩ := el_int hq _ _ _ rfl g2
    simp at e0 e1 e2
    subst e0 e1 e2
    exact ⟨(a, b, c), rfl⟩
end
end Go.Proofs.YtilahcnpjbnjiaaGreatDoor
