/- The rows of layer 11. -/
import Derived.Test.YtcioiiobjfblbaaRow
import Derived.Test.YtcioiiobjfblbaaSpansLaw2
namespace Go.Proofs.Ytcioiiobjfblbaa
set_option linter.unusedSimpArgs false
open Go.ChangeShapes Go.WideShapes Go.ChangeAt Go.RowKit Go.Deep Go.Joins
set_option linter.unusedVariables false
section
variable {H : Type} {enc : TypeId × Value → H}

theorem cells_sp : Try.prog.cellsOf 24 = 2 := by kernel_rfl
theorem cells_int : Try.prog.cellsOf 3 = 1 := by kernel_rfl

theorem slr_of_arg {P : Program} {t e q : TypeId} {f0 f1 : Field} (ht : P.underlying t = some (.slice e)) (he : P.underlying e = some (.struct #[f0, f1])) (ce : P.cellsOf e = 2) (o0 : f0.offset = 0) (o1 : f1.offset = 1) (t0 : f0.type = q) (t1 : f1.type = q) (cq : P.cellsOf q = 1)
    (hq : P.underlying q = some (.int .i64)) {W : World} {base : Nat} {v : Value} {d : DataW H} {ps : List MemPlace} (hv : Value.okWide P W .any base t v)
    (h : DataW.Trod enc P W 0 (fun _ => true) true t v d ps) : ∃ l : List Sp.S, SlR W 2 encSp v l := by
  have hok : Cell.ok P W .any base t v := by
    have h1 := hv
    simp only [Value.okWide, ht, Cell.okWide] at h1
    exact h1
  obtain ⟨a0, len0, cap0, rfl⟩ := okWide_slice ht hv
  obtain ⟨fuel, hf⟩ := h
  rcases open_slice_pairs ht he ce o0 o1 (t0 ▸ cq) (t1 ▸ cq) hf with ⟨hcs, hx⟩ | ⟨a, len, cap, m, n, V0, V1, D0, D1, P0, P1, hcs, hb, hl, hm, hmm, hx, hcell⟩
  · simp [Value.cells] at hcs
    obtain ⟨rfl, rfl, rfl⟩ := hcs
    exact ⟨[], none, 0, rfl, Nat.le_refl _, by omega, fun _ => rfl, fun a ha => by cases ha⟩
  · simp [Value.cells] at hcs
    obtain ⟨rfl, rfl, rfl⟩ := hcs
    simp only [Cell.ok, ht] at hok
    obtain ⟨h1, h2, _, hsp, row, cells, hsh, _⟩ := hok
    obtain ⟨b, off, spot⟩ := a
    simp only at hsp
    subst hsp
    have hlt : b < W.heap.size := by
      unfold World.shape? at hsh
      cases hh : W.heap[b]? with
      | none => simp [hh] at hsh
      | some o => exact (Array.getElem?_eq_some_iff.1 hh).1
    have hadd : ∀ i, (⟨b, off, none⟩ : Addr).add i = ⟨b, off + i, none⟩ := fun i => by unfold Addr.add; split <;> simp_all
    obtain ⟨l, hll, hlc⟩ := list_of_cells (W := W) (b := b) (off := off) len0 (fun i hi => by
      have hlm : i < m := by rw [hmm]; simp only [if_true]; omega
      obtain ⟨c0, c1, u0, u1⟩ := hcell i hlm
      rw [t0] at u0
      rw [t1] at u1
      obtain ⟨x, e0, _, _⟩ := DataW.trod_int hq u0
      obtain ⟨y, e1, _, _⟩ := DataW.trod_int hq u1
      simp at e0 e1
      rw [hadd, e0] at c0
      rw [hadd, e1] at c1
      exact ⟨x, y, c0, c1⟩)
    refine ⟨l, some ⟨b, off, none⟩, cap0, by rw [hll], by omega, by unfold maxLen at hm; omega, (fun e => by cases e), fun a ha => ?_⟩
    cases ha
    refine ⟨rfl, hlt, fun i s hs j u hu => ?_⟩
    obtain ⟨q0, q1⟩ := hlc i s hs
    match j, hu with
    | 0, hu => simp [encSp] at hu; subst hu; exact q0
    | 1, hu => simp [encSp] at hu; subst hu; rw [Nat.add_assoc]; exact q1
    | j + 2, hu => simp [encSp] at hu

theorem sp_of_arg {P : Program} {e q : TypeId} {f0 f1 : Field} (he : P.underlying e = some (.struct #[f0, f1])) (ho : oneCellFields P #[f0, f1] = true) (ce : P.cellsOf e = 2) (t0 : f0.type = q) (t1 : f1.type = q)
    (hq : P.underlying q = some (.int .i64)) {W : World} {base : Nat} {v : Value} {d : DataW H} {ps : List MemPlace} (hv : Value.okWide P W .any base e v)
    (h : DataW.Trod enc P W 0 (fun _ => true) true e v d ps) : ∃ s : Sp.S, v = .agg #[.int .i64 s.1, .int .i64 s.2] := by
  obtain ⟨c0, c1, y0, y1, m, rfl, rfl, rfl, h0, h1⟩ := open_agg2 he ho ce hv h
  rw [t0] at h0
  rw [t1] at h1
  obtain ⟨x, e0, _, _⟩ := DataW.trod_int hq h0
  obtain ⟨y, e1, _, _⟩ := DataW.trod_int hq h1
  simp at e0 e1
  subst e0
  subst e1
  exact ⟨(x, y), rfl⟩

set_option maxRecDepth 100000 in
theorem spansNorm_contract (W : World) (base : Nat) (args : Array Value) (ds gs : List (DataW H)) (before : List MemPlace)
    (hval : ∀ (j : Nat) t v, Try.f3.params[j]? = some t → args[j]? = some v → Value.okWide Try.prog W .any base t v)
    (hW : DataW.Whole enc Try.prog Try.f3.params.toList Rows.spansNormSpec.vars false W args.toList ds gs before) :
    Calls Try.prog 3 args W fun e W' => ∃ v, e = .returned v ∧ Rows.spansNormSpec.post enc Try.prog Try.f3 false true false false W args v W' := by
  have hW' := hW
  obtain ⟨p, q, hA0, hV, hbe, hfz, hnd⟩ := hW
  have hA : DataW.TrodAll enc Try.prog W 0 (fun _ => true) true Try.f3.params.toList args.toList ds p := hA0
  obtain ⟨rfl, rfl⟩ := trodVars_none hV
  rw [Try.params3] at hA hval
  obtain ⟨v0, vs0, d0, ds0, p0, q0, hargs, rfl, rfl, h0, r0⟩ := trodAll_cons hA
  obtain ⟨v1, vs1, d1, ds1, p1, q1, rfl, rfl, rfl, h1, r1⟩ := trodAll_cons r0
  obtain ⟨rfl, rfl, rfl⟩ := trodAll_nil r1
  obtain rfl : args = #[v0, v1] := by cases args; simp_all
  obtain ⟨l, hl⟩ := slr_of_arg (by kernel_rfl) Try.underlying24 cells_sp rfl rfl rfl rfl cells_int Try.underlying3 (hval 0 _ v0 rfl rfl) h0
  obtain ⟨s, rfl⟩ := sp_of_arg Try.underlying24 (by kernel_rfl) cells_sp rfl rfl Try.underlying3 (hval 1 _ v1 rfl rfl) h1
  refine (law_norm l s v0 W hl).mono fun e W' ⟨he, hb⟩ => ⟨_, he, ?_⟩
  exact post_true hW' hA0 hbe rfl rfl (by kernel_rfl) rfl hb

set_option maxRecDepth 100000 in
theorem spansNorm_lifted (os : Os) (started : os.Started) (H : Type) (enc : TypeId × Value → H) :
    ReturnsInHanded {} Try.checked os 3 .any (Rows.spansNormSpec.pre6 enc Try.prog Try.f3 Rows.spansNormRow.domain false) (Rows.spansNormSpec.post enc Try.prog Try.f3 false true false false) := by
  refine returnsInHanded_of_change (C := Try.checked) own started (by kernel_rfl) Try.func3
    (ChangeSpec.witness6 (enc := enc) (C := Try.checked) false ⟨#[], #[.slice none 0 0, .agg #[.int .i64 0, .int .i64 0]], []⟩ 8 (by kernel_rfl) (by kernel_rfl) (by kernel_rfl) (by kernel_rfl)) ?_
  intro W base args ds gs before hval hW _ _
  exact spansNorm_contract W base args ds gs before hval hW

theorem spansNorm_proved : Rows.SpansNormSaid :=
  OpenClaim.holds_of_wide 3 Try.f3 rfl rfl rfl rfl rfl rfl rfl ⟨rfl, rfl, rfl, rfl, rfl⟩ rfl rfl rfl rfl rfl (by kernel_rfl) Try.func3 (by kernel_rfl)
    (of_decide_eq_true (by kernel_rfl)) (by unfold Func.isWrapper; first | (rw [if_pos (by decide +kernel)]; kernel_rfl) | (rw [if_neg (by decide +kernel)]; exact ⟨rfl, rfl⟩))
    (fun os started H enc _ => spansNorm_lifted os started H enc)
end
end Go.Proofs.Ytcioiiobjfblbaa
