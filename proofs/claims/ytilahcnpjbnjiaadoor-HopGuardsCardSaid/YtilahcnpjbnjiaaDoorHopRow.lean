/- The rows of layer 15: the wrap with the world's shape; what a row lists; the laid world; arguments. -/
import Derived.Test.YtilahcnpjbnjiaaDoorRow3
import Derived.Test.YtilahcnpjbnjiaaDoorTie
import Derived.Test.YtilahcnpjbnjiaaDoorCards
import Derived.Test.YtilahcnpjbnjiaaDoorHopLaw
import Derived.Lib.LaidTab
import Derived.Stop.LaidErr
import Derived.SizedLaws
import Derived.JoinedAt
import Derived.LaidLaws
import Derived.SevenTiedAt
import Derived.RowKit3
import Derived.ChangeMaps5
import Derived.HandedShaped
import Derived.Shelf.Vars
namespace Go.Proofs.YtilahcnpjbnjiaaDoor
open Go.ChangeShapes Go.WideShapes Go.ChangeAt Go.RowKit Go.Deep Go.Joins
open Go.ChangeMaps (open_string)
set_option linter.unusedVariables false
set_option linter.unusedSimpArgs false

theorem star : "*" ++ "errors.errorString" = "*errors.errorString" := by decide
/-- the one type of that name -/
theorem errRow (u : TypeId) (h : Tryd.prog.typeName? 3 u = some "*errors.errorString") : u = 119 :=
  typeName_ptr_named (nm := "errors.errorString") (by rw [star]; kernel_rfl) (by kernel_rfl) (by decide) u (by rw [star]; exact h)
theorem gPow : Tryd.prog.globalNamed "internal/strconv.uint64pow10" = some 1 := by kernel_rfl
theorem gRng : Tryd.prog.globalNamed "strconv.ErrRange" = some 5 := by kernel_rfl
theorem gSyn : Tryd.prog.globalNamed "strconv.ErrSyntax" = some 4 := by kernel_rfl
set_option maxRecDepth 100000 in
theorem ht_of_laid {W : World} (h : laidMet Tryd.prog Rows.hopTellsRow.laid W) (hS : W.ShapedOpen Tryd.prog) : HT0 W := by
  obtain ⟨a0, s0, hv0, -, -, -⟩ := laid_sentinel h.tail.tail.tail.tail gRng (by kernel_rfl) Tryd.underlying68 errRow Tryd.underlying119 Tryd.underlying121 rfl rfl Tryd.underlying9 (by kernel_rfl) (by kernel_rfl)
  obtain ⟨a1, s1, hv1, -, -, -⟩ := laid_sentinel h.tail.tail.tail.tail.tail gSyn (by kernel_rfl) Tryd.underlying68 errRow Tryd.underlying119 Tryd.underlying121 rfl rfl Tryd.underlying9 (by kernel_rfl) (by kernel_rfl)
  exact ⟨⟨Lib.tabIs_of_head (k := .u64) (zs := Lib.pow10Tab) gPow (by kernel_rfl) Tryd.underlying101 Tryd.underlying87 (by kernel_rfl) (by kernel_rfl) h.tail.tail, ⟨_, _, hv1⟩, ⟨_, _, hv0⟩⟩,
    cell_of_shapedOpen_int (zero := #[.int .i64 0]) hS (of_decide_eq_true (by kernel_rfl)) (by kernel_rfl) rfl (by kernel_rfl) (by kernel_rfl) Tryd.underlying3⟩

/-- the values of a table's datum -/
def litsOf : DataW Unit → Array Value
  | .agg xs => (xs.map fun | .lit (.int k n) => Value.int k n | _ => .int .u8 0).toArray
  | _ => #[]
/-- so many blocks has the settled world -/
noncomputable def low : Nat := (World.holding Tryd.prog default ⟨#[], #[], []⟩).heap.size
/-- a variable's block, as its initialiser lays it -/
def layCells (cs : Array Value) : Obj → Obj
  | .cells _ t frozen => .cells cs t frozen
  | o => o
/-- the cells of a table whose rows may be structs -/
def litsOf2 : DataW Unit → Array Value
  | .agg xs => (xs.flatMap fun | .lit (.int k n) => [Value.int k n] | .agg ys => (ys.map fun | .lit (.int k n) => Value.int k n | _ => .int .u8 0) | _ => []).toArray
  | _ => #[]
noncomputable def laidWorld (os : Os) : World :=
  let w0 := World.holding Tryd.prog os ⟨#[.cells #[.string ⟨#[118, 97, 108, 117, 101, 32, 111, 117, 116, 32, 111, 102, 32, 114, 97, 110, 103, 101]⟩] 121, .cells #[.string ⟨#[105, 110, 118, 97, 108, 105, 100, 32, 115, 121, 110, 116, 97, 120]⟩] 121], #[], []⟩
  { w0 with heap := ((((((w0.heap.modify 6 (layCells (litsOf Rows.laid_math_bits_deBruijn32tab))).modify 7 (layCells (litsOf Rows.laid_math_bits_deBruijn64tab))).modify 1 (layCells (litsOf Rows.laid_internal_strconv_uint64pow10))).modify 3 (layCells (litsOf2 Rows.laid_unicode_utf8_acceptRanges))).modify 5 (layCells #[.iface 119 (.pointer (some ⟨low, 0, none⟩))])).modify 4 (layCells #[.iface 119 (.pointer (some ⟨low + 1, 0, none⟩))])).modify 2 (layCells (litsOf2 Rows.laid_unicode_utf8_first)) }
set_option maxRecDepth 100000 in
theorem laidWorld_met (os : Os) (args : Array Value) : laidMet Tryd.prog Rows.hopTellsRow.laid ((laidWorld os).forCall (fun _ _ => 0) ⟨#[], args, []⟩).memory :=
  laidMet_of_run' 8 (by kernel_rfl) (by kernel_rfl)

section
variable {H : Type} {enc : TypeId × Value → H}

theorem returns_and_shaped {a : Assume} {C : Checked} {os : Os} {f : FuncId} {fn : Func} {s : ChangeSpec} {conds : List PathCond} {apart fresh handsOn again : Bool} {X : World → Array Value → Prop}
    (hX : ∀ (w w' : World) (args : Array Value), w.heap = w'.heap → X w args → X w' args)
    (own : ownKnob C.prog.godebug = none) (started : os.Started) (noInit : C.prog.inits.idxOf? f = none) (hfn : C.prog.funcs[f]? = some fn)
    (witness : ∃ (w : World) (tape : Tape) (i : Input), w.os = os ∧ (w.forCall tape i).Shaped C.prog ∧ i.vars = [] ∧ Input.okWide C.prog (w.forCall tape i) .any w.heap.size f i ∧
      ((s.pre enc C.prog fn conds apart (w.forCall tape i).memory i.args ∧ X (w.forCall tape i).memory i.args) ∧ sizedMet enc C.prog fn (OpenSpec.ofChange s) apart (w.forCall tape i).memory i.args) ∧ a.holds C.prog (lone (Frame.enter C.prog f i.args .normal) [] (w.forCall tape i)))
    (contract : ∀ (W : World) (base : Nat) (args : Array Value) (ds gs : List (DataW H)) (before : List MemPlace),
      (∀ (j : Nat) t v, fn.params[j]? = some t → args[j]? = some v → Value.okWide C.prog W .any base t v) →
      DataW.Whole enc C.prog fn.params.toList s.vars apart W args.toList ds gs before →
      conds.all (PathCond.test C.prog ⟨fn.params.toList, ds, s.plain.varTypes C.prog, gs⟩) = true →
      (DataW.weightsEach C.prog (fn.params.toList ++ s.plain.varTypes C.prog) (ds ++ gs)).all (· ≤ reachBytes) = true → X W args → W.ShapedOpen C.prog →
      a.holds C.prog (lone (Frame.enter C.prog f args .normal) [] W) →
      Calls C.prog f args W fun e W' => ∃ v, e = .returned v ∧ s.post enc C.prog fn apart fresh handsOn again W args v W') :
    ReturnsInHanded a C os f .any (fun w args => (s.pre enc C.prog fn conds apart w args ∧ X w args) ∧ sizedMet enc C.prog fn (OpenSpec.ofChange s) apart w args) (s.post enc C.prog fn apart fresh handsOn again) := by
  refine returnsInHanded_of_calls own started noInit witness ?_
  intro w tape i _ hsh _ hok hpre hholds
  obtain ⟨_, _, _, fn', hfn', _, _, _, _, hval⟩ := hok
  have e : fn' = fn := Option.some.inj (hfn'.symm.trans hfn)
  subst e
  obtain ⟨⟨⟨ds, gs, before, hw, hc⟩, hx⟩, hz⟩ := hpre
  have hw' := DataW.Whole.of_heap (w' := w.forCall tape i) (by rfl) hw
  refine (contract (w.forCall tape i) w.heap.size i.args ds gs before hval hw' hc (hz.weights hw) (hX _ _ _ (by rfl) hx) hsh hholds).mono fun e W' ⟨v, he, hp⟩ => ?_
  subst he
  exact ChangeSpec.post_blind hp
end
section
variable {H : Type} {enc : TypeId × Value → H}
set_option maxRecDepth 100000 in
theorem ints_of_arg15 {W : World} {base : Nat} {v : Value} {d : DataW H} {ps : List MemPlace} (hv : Value.okWide Tryd.prog W .any base 22 v) (h : DataW.Trod enc Tryd.prog W 0 (fun _ => true) true 22 v d ps) : ∃ l : List Int, SlR W 1 encI v l :=
  sl_of_arg (ec := encI) (fun _ => rfl) (by kernel_rfl) (by kernel_rfl) hv h (fun fuel cs x hl hh => by
    obtain ⟨y, e, hw⟩ := el_int Tryd.underlying3 fuel cs x hl hh
    exact ⟨y, e⟩)
set_option maxRecDepth 100000 in
theorem hop_of_arg {W : World} {base : Nat} {v : Value} {d : DataW H} {ps : List MemPlace} (hv : Value.okWide Tryd.prog W .any base 24 v) (h : DataW.Trod enc Tryd.prog W 0 (fun _ => true) true 24 v d ps) :
    ∃ (k : Hp.Hop) (l r : Value), v = .agg (hopA k l r) ∧ SlR W 1 encI l k.labels ∧ SlR W 1 encI r k.repair := by
  have hv' := hv
  simp only [Value.okWide, Tryd.underlying24] at hv
  obtain ⟨cs, rfl, _⟩ := hv
  obtain ⟨fuel, hf⟩ := h
  obtain ⟨xs, n, _, _, hl, hlen, hq⟩ := DataW.trod_struct Tryd.underlying24 hf
  have hc6 : Tryd.prog.cellsOf 24 = 6 := by kernel_rfl
  rw [hc6] at hl
  have hl6 : xs.length = 6 := hlen
  have hL : cs.toList.length = 6 := by simpa [Value.cells] using hl
  obtain ⟨a0, a1, a2, a3, a4, a5, hcs⟩ : ∃ a0 a1 a2 a3 a4 a5, cs.toList = [a0, a1, a2, a3, a4, a5] := by
    clear hq hlen hv' hf hl
    match cs.toList, hL with
    | [a0, a1, a2, a3, a4, a5], _ => exact ⟨a0, a1, a2, a3, a4, a5, rfl⟩
  obtain rfl : cs = #[a0, a1, a2, a3, a4, a5] := by
    have h2 : cs = cs.toList.toArray := by simp
    rw [h2, hcs]
  obtain ⟨y0, y1, y2, y3, y4, y5, rfl⟩ : ∃ y0 y1 y2 y3 y4 y5, xs = [y0, y1, y2, y3, y4, y5] := by
    clear hq hlen
    match xs, hl6 with
    | [y0, y1, y2, y3, y4, y5], _ => exact ⟨y0, y1, y2, y3, y4, y5, rfl⟩
  have c1 : Tryd.prog.cellsOf 3 = 1 := by kernel_rfl
  have c2 : Tryd.prog.cellsOf 22 = 1 := by kernel_rfl
  have c3 : Tryd.prog.cellsOf 4 = 1 := by kernel_rfl
  have q0 : DataW.trod enc Tryd.prog W 0 (fun _ => true) true n 3 (([a0, a1, a2, a3, a4, a5].drop 0).take (Tryd.prog.cellsOf 3)) = some y0 := hq 0 _ rfl
  have q1 : DataW.trod enc Tryd.prog W 0 (fun _ => true) true n 22 (([a0, a1, a2, a3, a4, a5].drop 1).take (Tryd.prog.cellsOf 22)) = some y1 := hq 1 _ rfl
  have q2 : DataW.trod enc Tryd.prog W 0 (fun _ => true) true n 3 (([a0, a1, a2, a3, a4, a5].drop 2).take (Tryd.prog.cellsOf 3)) = some y2 := hq 2 _ rfl
  have q3 : DataW.trod enc Tryd.prog W 0 (fun _ => true) true n 3 (([a0, a1, a2, a3, a4, a5].drop 3).take (Tryd.prog.cellsOf 3)) = some y3 := hq 3 _ rfl
  have q4 : DataW.trod enc Tryd.prog W 0 (fun _ => true) true n 22 (([a0, a1, a2, a3, a4, a5].drop 4).take (Tryd.prog.cellsOf 22)) = some y4 := hq 4 _ rfl
  have q5 : DataW.trod enc Tryd.prog W 0 (fun _ => true) true n 4 (([a0, a1, a2, a3, a4, a5].drop 5).take (Tryd.prog.cellsOf 4)) = some y5 := hq 5 _ rfl
  rw [c1] at q0 q2 q3
  rw [c2] at q1 q4
  rw [c3] at q5
  simp only [List.drop_zero, List.drop_succ_cons, List.take_succ_cons, List.take_zero] at q0 q1 q2 q3 q4 q5
  obtain ⟨i0, e0, _, _⟩ := DataW.trod_int Tryd.underlying3 q0
  obtain ⟨i2, e2, _, _⟩ := DataW.trod_int Tryd.underlying3 q2
  obtain ⟨i3, e3, _, _⟩ := DataW.trod_int Tryd.underlying3 q3
  obtain ⟨b5, e5, _⟩ := DataW.trod_bool Tryd.underlying4 q5
  simp only [List.cons.injEq, and_true] at e0 e2 e3 e5
  subst e0 e2 e3 e5
  have hs : Value.okWide Tryd.prog W .any base 22 a1 ∧ Value.okWide Tryd.prog W .any base 22 a4 := by
    simp only [Value.okWide, Tryd.underlying24] at hv'
    obtain ⟨cs, e, _, ts, hts, _, hrow⟩ := hv'
    cases e
    have hts' : Tryd.prog.cellTypes Tryd.prog.depth 24 = some [3, 22, 3, 3, 22, 4] := by kernel_rfl
    rw [hts'] at hts
    cases hts
    obtain ⟨u, hu, hc⟩ := hrow 1 a1 rfl
    obtain ⟨u4, hu4, hc4⟩ := hrow 4 a4 rfl
    cases hu
    cases hu4
    simp only [Value.okWide, Tryd.underlying22]
    exact ⟨hc, hc4⟩
  have ht1 : DataW.Trod enc Tryd.prog W 0 (fun _ => true) true 22 a1 y1.1 y1.2 := by
    obtain ⟨a0, len0, cap0, rfl⟩ := okWide_slice Tryd.underlying22 hs.1
    exact ⟨n, q1⟩
  have ht4 : DataW.Trod enc Tryd.prog W 0 (fun _ => true) true 22 a4 y4.1 y4.2 := by
    obtain ⟨a0, len0, cap0, rfl⟩ := okWide_slice Tryd.underlying22 hs.2
    exact ⟨n, q4⟩
  obtain ⟨L, hL1⟩ := ints_of_arg15 hs.1 ht1
  obtain ⟨R, hR1⟩ := ints_of_arg15 hs.2 ht4
  exact ⟨⟨i0, L, i2, i3, R, b5⟩, a1, a4, rfl, hL1, hR1⟩
end
end Go.Proofs.YtilahcnpjbnjiaaDoor
