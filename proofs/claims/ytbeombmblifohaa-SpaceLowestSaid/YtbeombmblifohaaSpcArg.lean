/- The arguments of layer 12's laws: a script; a step. -/
import Derived.Test.YtbeombmblifohaaRow3
import Derived.Test.YtbeombmblifohaaSpcLaw4
namespace Go.Proofs.Ytbeombmblifohaa
set_option linter.unusedSimpArgs false
set_option linter.unusedVariables false
open Go.ChangeShapes Go.WideShapes Go.ChangeAt Go.RowKit Go.Deep Go.Joins
section
variable {H : Type} {enc : TypeId × Value → H}
/-- a step's numbers are a machine's -/
def Num (x : Sp.Stp) : Prop := (-9223372036854775808 ≤ x.size ∧ x.size ≤ 9223372036854775807) ∧ (-9223372036854775808 ≤ x.owner ∧ x.owner ≤ 9223372036854775807)
theorem num_wf {y : Int} (h : (Lit.int .i64 y).wf = true) : -9223372036854775808 ≤ y ∧ y ≤ 9223372036854775807 := by
  simpa [Lit.wf, IntKind.min, IntKind.max, IntKind.signed, IntKind.bits] using h
/-- a struct of four ints and of one of two -/
theorem el_stp {P : Program} {e q s : TypeId} {f0 f1 f2 f3 f4 g0 g1 : Field} (he : P.underlying e = some (.struct #[f0, f1, f2, f3, f4])) (o0 : f0.offset = 0) (o1 : f1.offset = 1) (o2 : f2.offset = 2) (o3 : f3.offset = 3) (o4 : f4.offset = 4)
    (t0 : f0.type = q) (t1 : f1.type = q) (t2 : f2.type = q) (t3 : f3.type = q) (t4 : f4.type = s) (hs : P.underlying s = some (.struct #[g0, g1])) (r0 : g0.offset = 0) (r1 : g1.offset = 1) (u0 : g0.type = q) (u1 : g1.type = q) (cq : P.cellsOf q = 1) (cs' : P.cellsOf s = 2)
    (hq : P.underlying q = some (.int .i64)) {W : World} (fuel : Nat) (cs : List Value) (x : DataW H × List MemPlace) (hl : cs.length = 6) (h : DataW.trod enc P W 0 (fun _ => true) true fuel e cs = some x) : ∃ y : { y : Sp.Stp // Num y }, cs = encStp y.1 := by
  obtain ⟨ys, n', hn', hy, hlen, hyl, hf⟩ := DataW.trod_struct he h
  match ys, hyl, cs, hl with
  | [y0, y1, y2, y3, y4], _, [v0, v1, v2, v3, v4, v5], _ =>
    have k0 := hf 0 f0 rfl
    have k1 := hf 1 f1 rfl
    have k2 := hf 2 f2 rfl
    have k3 := hf 3 f3 rfl
    have k4 := hf 4 f4 rfl
    simp [o0, o1, o2, o3, o4, t0, t1, t2, t3, t4, cq, cs'] at k0 k1 k2 k3 k4
    obtain ⟨a, e0, _⟩ := el_int hq _ _ _ rfl k0
    obtain ⟨b, e1, w1⟩ := el_int hq _ _ _ rfl k1
    obtain ⟨c, e2, _⟩ := el_int hq _ _ _ rfl k2
    obtain ⟨d, e3, w3⟩ := el_int hq _ _ _ rfl k3
    obtain ⟨zs, m', hm', hz, hzl, hzz, hg⟩ := DataW.trod_struct hs k4
    match zs, hzz with
    | [z0, z1], _ =>
      have j0 := hg 0 g0 rfl
      have j1 := hg 1 g1 rfl
      simp [r0, r1, u0, u1, cq] at j0 j1
      obtain ⟨f, e4, _⟩ := el_int hq _ _ _ rfl j0
      obtain ⟨g, e5, _⟩ := el_int hq _ _ _ rfl j1
      simp at e0 e1 e2 e3 e4 e5
      subst e0 e1 e2 e3 e4 e5
      exact ⟨⟨⟨a, b, c, d, (f, g)⟩, num_wf w3, num_wf w1⟩, rfl⟩
theorem SlR.unbound {α : Type} {p : α → Prop} {W : World} {k : Nat} {ec : α → List Value} {v : Value} {l : List { x : α // p x }} (h : SlR W k (fun y : { x : α // p x } => ec y.1) v l) : SlR W k ec v (l.map (·.1)) := by
  obtain ⟨q, c, rfl, h2, h3, h4, h5⟩ := h
  refine ⟨q, c, by rw [List.length_map], by rw [List.length_map]; exact h2, h3, fun e => by rw [List.length_map]; exact h4 e, fun a ha => ?_⟩
  obtain ⟨h6, h7, h8⟩ := h5 a ha
  refine ⟨h6, h7, fun i x hx j u hu => ?_⟩
  rw [List.getElem?_map] at hx
  cases hy : l[i]? with
  | none => rw [hy] at hx; cases hx
  | some y =>
    rw [hy] at hx
    cases hx
    exact h8 i y hy j u hu
set_option maxRecDepth 100000 in
theorem stps_of_arg {W : World} {base : Nat} {v : Value} {d : DataW H} {ps : List MemPlace} (hv : Value.okWide Try.prog W .any base 22 v) (h : DataW.Trod enc Try.prog W 0 (fun _ => true) true 22 v d ps) : ∃ l : List Sp.Stp, (∀ x ∈ l, Num x) ∧ SlR W 6 encStp v l := by
  obtain ⟨l, hl⟩ := sl_of_arg (ec := fun y : { y : Sp.Stp // Num y } => encStp y.1) (fun y => encStp_len y.1) (by kernel_rfl) (by kernel_rfl) hv h (fun fuel cs x hl hh =>
    el_stp Try.underlying35 rfl rfl rfl rfl rfl rfl rfl rfl rfl rfl Try.underlying27 rfl rfl rfl rfl (by kernel_rfl) (by kernel_rfl) Try.underlying3 fuel cs x hl hh)
  exact ⟨l.map (·.1), fun x hx => (by obtain ⟨y, _, rfl⟩ := List.mem_map.1 hx; exact y.2), hl.unbound⟩
theorem agg_stp {P : Program} {e q s : TypeId} {f0 f1 f2 f3 f4 g0 g1 : Field} (he : P.underlying e = some (.struct #[f0, f1, f2, f3, f4])) (ce : P.cellsOf e = 6) (o0 : f0.offset = 0) (o1 : f1.offset = 1) (o2 : f2.offset = 2) (o3 : f3.offset = 3) (o4 : f4.offset = 4)
    (t0 : f0.type = q) (t1 : f1.type = q) (t2 : f2.type = q) (t3 : f3.type = q) (t4 : f4.type = s) (hs : P.underlying s = some (.struct #[g0, g1])) (r0 : g0.offset = 0) (r1 : g1.offset = 1) (u0 : g0.type = q) (u1 : g1.type = q) (cq : P.cellsOf q = 1) (cs' : P.cellsOf s = 2)
    (hq : P.underlying q = some (.int .i64)) {W : World} {base : Nat} {v : Value} {d : DataW H} {ps : List MemPlace} (hv : Value.okWide P W .any base e v) (h : DataW.Trod enc P W 0 (fun _ => true) true e v d ps) : ∃ y : Sp.Stp, Num y ∧ v = .agg (encStp y).toArray := by
  obtain ⟨cs, rfl, hcs⟩ := okWide_struct he hv
  obtain ⟨fuel, hf⟩ := h
  obtain ⟨⟨y, hy⟩, e⟩ := el_stp he o0 o1 o2 o3 o4 t0 t1 t2 t3 t4 hs r0 r1 u0 u1 cq cs' hq fuel _ _ (by simp [Value.cells, hcs, ce]) hf
  refine ⟨y, hy, ?_⟩
  simp only [Value.cells] at e
  rw [← e]
end
end Go.Proofs.Ytbeombmblifohaa
