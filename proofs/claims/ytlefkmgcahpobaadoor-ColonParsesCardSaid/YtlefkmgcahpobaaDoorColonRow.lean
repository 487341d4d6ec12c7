/- The rows of layer 7: the wrap with the world's shape; the laid world. -/
import Derived.Test.YtlefkmgcahpobaaDoorOctetRow
import Derived.Test.YtlefkmgcahpobaaDoorColonArg
import Derived.Test.YtlefkmgcahpobaaDoorColonTab
import Derived.HandedShaped
import Derived.Shelf.Vars
namespace Go.Proofs.YtlefkmgcahpobaaDoor
open Go.ChangeShapes Go.WideShapes Go.ChangeAt Go.RowKit Go.Deep Go.Joins
set_option linter.unusedVariables false
set_option linter.unusedSimpArgs false
section
variable {H : Type} {enc : TypeId × Value → H}

theorem returns_and_shaped {a : Assume} {C : Checked} {os : Os} {f : FuncId} {fn : Func} {s : ChangeSpec} {conds : List PathCond} {apart fresh handsOn again : Bool} {X : World → Array Value → Prop}
    (hX : ∀ (w w' : World) (args : Array Value), w.heap = w'.heap → X w args → X w' args)
    (own : ownKnob C.prog.godebug = none) (started : os.Started) (noInit : C.prog.inits.idxOf? f = none) (hfn : C.prog.funcs[f]? = some fn)
    (witness : ∃ (w : World) (tape : Tape) (i : Input), w.os = os ∧ (w.forCall tape i).Shaped C.prog ∧ i.vars = [] ∧ Input.okWide C.prog (w.forCall tape i) .any w.heap.size f i ∧
      ((s.pre enc C.prog fn conds apart (w.forCall tape i).memory i.args ∧ X (w.forCall tape i).memory i.args) ∧ sizedMet enc C.prog fn (OpenSpec.ofChange s) apart (w.forCall tape i).memory i.args) ∧ a.holds C.prog (lone (Frame.enter C.prog f i.args .normal) [] (w.forCall tape i)))
    (contract : ∀ (W : World) (base : Nat) (args : Array Value) (ds gs : List (DataW H)) (before : List MemPlace),
      (∀ (j : Nat) t v, fn.params[j]? = some t → args[j]? = some v → Value.okWide C.prog W .any base t v) →
      DataW.Whole enc C.prog fn.params.toList s.vars apart W args.toList ds gs before →
      conds.all (PathCond.test C.prog ⟨fn.params.toList, ds, s.plain.varTypes C.prog, gs⟩) = true →
      (DataW.weightsEach C.prog (fn.params.toList ++ s.plain.varTypes C.prog) (ds ++ gs)).all (· ≤ reachBytes) = true → X W args → W.ShapedOpen C.prog →
      a.holds C.prog (lone (Frame.enter C.prog f args .normal) [] W) →
      Calls C.prog f args W fun e W' => ∃ v, e = .returned v ∧ s.post enc C.prog fn apart fresh handsOn again W args v W') :
    ReturnsInHanded a C os f .any (fun w args => (s.pre enc C.prog fn conds apart w args ∧ X w args) ∧ sizedMet enc C.prog fn (OpenSpec.ofChange s) apart w args) (s.post enc C.prog fn apart fresh handsOn again) := by
  refine returnsInHanded_of_calls own started noInit witness ?_
  intro w tape i _ hsh _ hok hpre hholds
  obtain ⟨_, _, _, fn', hfn', _, _, _, _, hval⟩ := hok
  have e : fn' = fn := Option.some.inj (hfn'.symm.trans hfn)
  subst e
  obtain ⟨⟨⟨ds, gs, before, hw, hc⟩, hx⟩, hz⟩ := hpre
  have hw' := DataW.Whole.of_heap (w' := w.forCall tape i) (by rfl) hw
  refine (contract (w.forCall tape i) w.heap.size i.args ds gs before hval hw' hc (hz.weights hw) (hX _ _ _ (by rfl) hx) hsh hholds).mono fun e W' ⟨v, he, hp⟩ => ?_
  subst he
  exact ChangeSpec.post_blind hp
end
section
variable {H : Type} {enc : TypeId × Value → H}
set_option maxRecDepth 100000 in
theorem arr16_of_arg {W : World} {base : Nat} {v : Value} {d : DataW H} {ps : List MemPlace} (hv : Value.okWide Tryd.prog W .any base 50 v) (h : DataW.Trod enc Tryd.prog W 0 (fun _ => true) true 50 v d ps) :
    ∃ l : List UInt8, l.length = 16 ∧ v = .agg (arrB l) := by
  obtain ⟨l, hl, hw, rfl⟩ := ints_of_arg Tryd.underlying50 Tryd.underlying5 (by kernel_rfl) (by kernel_rfl) hv h
  refine ⟨l.map fun z => UInt8.ofNat z.toNat, by rw [List.length_map, hl], ?_⟩
  unfold arrB
  rw [List.map_map]
  congr 2
  apply List.map_congr_left
  intro z hz
  obtain ⟨i, hi⟩ := List.getElem?_of_mem hz
  have hb : 0 ≤ z ∧ z ≤ 255 := by simpa [Lit.wf, IntKind.min, IntKind.max, IntKind.signed, IntKind.bits] using hw i z hi
  simp only [Function.comp_apply, Value.int.injEq, true_and]
  rw [UInt8.toNat_ofNat']
  omega
set_option maxRecDepth 100000 in
theorem arr8_of_arg {W : World} {base : Nat} {v : Value} {d : DataW H} {ps : List MemPlace} (hv : Value.okWide Tryd.prog W .any base 52 v) (h : DataW.Trod enc Tryd.prog W 0 (fun _ => true) true 52 v d ps) :
    ∃ l : List Int, l.length = 8 ∧ (∀ (k : Nat) (n : Int), l[k]? = some n → -9223372036854775808 ≤ n ∧ n ≤ 9223372036854775807) ∧ v = .agg (arrI l) := by
  obtain ⟨l, hl, hw, rfl⟩ := ints_of_arg Tryd.underlying52 Tryd.underlying3 (by kernel_rfl) (by kernel_rfl) hv h
  exact ⟨l, hl, fun k n hn => by simpa [Lit.wf, IntKind.min, IntKind.max, IntKind.signed, IntKind.bits] using hw k n hn, rfl⟩
end
theorem gTz : Tryd.prog.globalNamed "math/bits.deBruijn64tab" = some 5 := by kernel_rfl
set_option maxRecDepth 100000 in
theorem ct_of_laid {W : World} (h : laidMet Tryd.prog Rows.colonTellsRow.laid W) (hS : W.ShapedOpen Tryd.prog) : CT W :=
  ⟨Lib.tabIs_of_head (k := .u8) (zs := bruijn) gTz (by kernel_rfl) Tryd.underlying141 Tryd.underlying5 (by kernel_rfl) (by kernel_rfl) h.tail,
    cell_of_shapedOpen_int (zero := #[.int .i64 0]) hS (of_decide_eq_true (by kernel_rfl)) (by kernel_rfl) rfl (by kernel_rfl) (by kernel_rfl) Tryd.underlying3⟩

/-- the cells of a table whose rows may be structs -/
def litsOf2 : DataW Unit → Array Value
  | .agg xs => (xs.flatMap fun | .lit (.int k n) => [Value.int k n] | .agg ys => (ys.map fun | .lit (.int k n) => Value.int k n | _ => .int .u8 0) | _ => []).toArray
  | _ => #[]
noncomputable def laidWorldC (os : Os) : World :=
  let w0 := World.holding Tryd.prog os ⟨#[], #[], []⟩
  { w0 with heap := ((((w0.heap.modify 4 (layCells (litsOf Rows.laid_math_bits_deBruijn32tab))).modify 5 (layCells (litsOf Rows.laid_math_bits_deBruijn64tab))).modify 3 (layCells (litsOf Rows.laid_internal_strconv_uint64pow10))).modify 7 (layCells (litsOf2 Rows.laid_unicode_utf8_acceptRanges))).modify 6 (layCells (litsOf2 Rows.laid_unicode_utf8_first)) }
set_option maxRecDepth 100000 in
theorem laidWorldC_met (os : Os) (args : Array Value) : laidMet Tryd.prog Rows.colonTellsRow.laid ((laidWorldC os).forCall (fun _ _ => 0) ⟨#[], args, []⟩).memory :=
  laidMet_of_run' 8 (by kernel_rfl) (by kernel_rfl)
end Go.Proofs.YtlefkmgcahpobaaDoor
