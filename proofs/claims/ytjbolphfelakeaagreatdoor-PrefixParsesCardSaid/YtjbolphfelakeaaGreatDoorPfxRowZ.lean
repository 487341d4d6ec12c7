/- The rows of layer 8: the wrap with the world's shape; what a row lists; the laid world; arguments. -/
import Derived.Test.YtjbolphfelakeaaGreatDoorRow3
import Derived.Test.YtjbolphfelakeaaGreatDoorTie
import Derived.Test.YtjbolphfelakeaaGreatDoorCards
import Derived.Test.YtjbolphfelakeaaGreatDoorColonArg
import Derived.Test.YtjbolphfelakeaaGreatDoorPfxLaw
import Derived.Lib.LaidTab
import Derived.Stop.LaidErr
import Derived.SizedLaws
import Derived.JoinedAt
import Derived.LaidLaws
import Derived.SevenTiedAt
import Derived.RowKit3
import Derived.ChangeMaps5
import Derived.HandedShaped
import Derived.Shelf.Vars
namespace Go.Proofs.YtjbolphfelakeaaGreatDoor
open Go.ChangeShapes Go.WideShapes Go.ChangeAt Go.RowKit Go.Deep Go.Joins Go.PrefixPlain
open Go.ChangeMaps (open_string)
set_option linter.unusedVariables false
set_option linter.unusedSimpArgs false

theorem star : "*" ++ "errors.errorString" = "*errors.errorString" := by decide
/-- the one type of that name -/
theorem errRow (u : TypeId) (h : Tryz.prog.typeName? 3 u = some "*errors.errorString") : u = 129 :=
  typeName_ptr_named (nm := "errors.errorString") (by rw [star]; kernel_rfl) (by kernel_rfl) (by decide) u (by rw [star]; exact h)
theorem gPow : Tryz.prog.globalNamed "internal/strconv.uint64pow10" = some 3 := by kernel_rfl
theorem gRng : Tryz.prog.globalNamed "strconv.ErrRange" = some 2 := by kernel_rfl
theorem gSyn : Tryz.prog.globalNamed "strconv.ErrSyntax" = some 1 := by kernel_rfl
theorem gTz : Tryz.prog.globalNamed "math/bits.deBruijn64tab" = some 5 := by kernel_rfl
set_option maxRecDepth 100000 in
theorem pt_of_laid {W : World} (h : laidMet Tryz.prog Rows.prefixTellsRow.laid W) (hS : W.ShapedOpen Tryz.prog) : PT W := by
  obtain ⟨a0, s0, hv0, -, -, -⟩ := laid_sentinel h.tail.tail.tail.tail gRng (by kernel_rfl) Tryz.underlying74 errRow Tryz.underlying129 Tryz.underlying131 rfl rfl Tryz.underlying9 (by kernel_rfl) (by kernel_rfl)
  obtain ⟨a1, s1, hv1, -, -, -⟩ := laid_sentinel h.tail.tail.tail.tail.tail gSyn (by kernel_rfl) Tryz.underlying74 errRow Tryz.underlying129 Tryz.underlying131 rfl rfl Tryz.underlying9 (by kernel_rfl) (by kernel_rfl)
  exact ⟨⟨Lib.tabIs_of_head (k := .u8) (zs := bruijn) gTz (by kernel_rfl) Tryz.underlying136 Tryz.underlying5 (by kernel_rfl) (by kernel_rfl) h.tail,
      cell_of_shapedOpen_int (zero := #[.int .i64 0]) hS (of_decide_eq_true (by kernel_rfl)) (by kernel_rfl) rfl (by kernel_rfl) (by kernel_rfl) Tryz.underlying3⟩,
    ⟨Lib.tabIs_of_head (k := .u64) (zs := Lib.pow10Tab) gPow (by kernel_rfl) Tryz.underlying123 Tryz.underlying90 (by kernel_rfl) (by kernel_rfl) h.tail.tail, ⟨_, _, hv1⟩, ⟨_, _, hv0⟩⟩⟩

/-- the values of a table's datum -/
def litsOf : DataW Unit → Array Value
  | .agg xs => (xs.map fun | .lit (.int k n) => Value.int k n | _ => .int .u8 0).toArray
  | _ => #[]
/-- so many blocks has the settled world -/
noncomputable def low : Nat := (World.holding Tryz.prog default ⟨#[], #[], []⟩).heap.size
/-- a variable's block, as its initialiser lays it -/
def layCells (cs : Array Value) : Obj → Obj
  | .cells _ t frozen => .cells cs t frozen
  | o => o
/-- the cells of a table whose rows may be structs -/
def litsOf2 : DataW Unit → Array Value
  | .agg xs => (xs.flatMap fun | .lit (.int k n) => [Value.int k n] | .agg ys => (ys.map fun | .lit (.int k n) => Value.int k n | _ => .int .u8 0) | _ => []).toArray
  | _ => #[]
noncomputable def laidWorld (os : Os) : World :=
  let w0 := World.holding Tryz.prog os ⟨#[.cells #[.string ⟨#[118, 97, 108, 117, 101, 32, 111, 117, 116, 32, 111, 102, 32, 114, 97, 110, 103, 101]⟩] 131, .cells #[.string ⟨#[105, 110, 118, 97, 108, 105, 100, 32, 115, 121, 110, 116, 97, 120]⟩] 131], #[], []⟩
  { w0 with heap := ((((((w0.heap.modify 4 (layCells (litsOf Rows.laid_math_bits_deBruijn32tab))).modify 5 (layCells (litsOf Rows.laid_math_bits_deBruijn64tab))).modify 3 (layCells (litsOf Rows.laid_internal_strconv_uint64pow10))).modify 7 (layCells (litsOf2 Rows.laid_unicode_utf8_acceptRanges))).modify 2 (layCells #[.iface 129 (.pointer (some ⟨low, 0, none⟩))])).modify 1 (layCells #[.iface 129 (.pointer (some ⟨low + 1, 0, none⟩))])).modify 6 (layCells (litsOf2 Rows.laid_unicode_utf8_first)) }
set_option maxRecDepth 100000 in
theorem laidWorld_met (os : Os) (args : Array Value) : laidMet Tryz.prog Rows.prefixTellsRow.laid ((laidWorld os).forCall (fun _ _ => 0) ⟨#[], args, []⟩).memory :=
  laidMet_of_run' 8 (by kernel_rfl) (by kernel_rfl)

section
variable {H : Type} {enc : TypeId × Value → H}

theorem returns_and_shaped {a : Assume} {C : Checked} {os : Os} {f : FuncId} {fn : Func} {s : ChangeSpec} {conds : List PathCond} {apart fresh handsOn again : Bool} {X : World → Array Value → Prop}
    (hX : ∀ (w w' : World) (args : Array Value), w.heap = w'.heap → X w args → X w' args)
    (own : ownKnob C.prog.godebug = none) (started : os.Started) (noInit : C.prog.inits.idxOf? f = none) (hfn : C.prog.funcs[f]? = some fn)
    (witness : ∃ (w : World) (tape : Tape) (i : Input), w.os = os ∧ (w.forCall tape i).Shaped C.prog ∧ i.vars = [] ∧ Input.okWide C.prog (w.forCall tape i) .any w.heap.size f i ∧
      ((s.pre enc C.prog fn conds apart (w.forCall tape i).memory i.args ∧ X (w.forCall tape i).memory i.args) ∧ sizedMet enc C.prog fn (OpenSpec.ofChange s) apart (w.forCall tape i).memory i.args) ∧ a.holds C.prog (lone (Frame.enter C.prog f i.args .normal) [] (w.forCall tape i)))
    (contract : ∀ (W : World) (base : Nat) (args : Array Value) (ds gs : List (DataW H)) (before : List MemPlace),
      (∀ (j : Nat) t v, fn.params[j]? = some t → args[j]? = some v → Value.okWide C.prog W .any base t v) →
      DataW.Whole enc C.prog fn.params.toList s.vars apart W args.toList ds gs before →
      conds.all (PathCond.test C.prog ⟨fn.params.toList, ds, s.plain.varTypes C.prog, gs⟩) = true →
      (DataW.weightsEach C.prog (fn.params.toList ++ s.plain.varTypes C.prog) (ds ++ gs)).all (· ≤ reachBytes) = true → X W args → W.ShapedOpen C.prog →
      a.holds C.prog (lone (Frame.enter C.prog f args .normal) [] W) →
      Calls C.prog f args W fun e W' => ∃ v, e = .returned v ∧ s.post enc C.prog fn apart fresh handsOn again W args v W') :
    ReturnsInHanded a C os f .any (fun w args => (s.pre enc C.prog fn conds apart w args ∧ X w args) ∧ sizedMet enc C.prog fn (OpenSpec.ofChange s) apart w args) (s.post enc C.prog fn apart fresh handsOn again) := by
  refine returnsInHanded_of_calls own started noInit witness ?_
  intro w tape i _ hsh _ hok hpre hholds
  obtain ⟨_, _, _, fn', hfn', _, _, _, _, hval⟩ := hok
  have e : fn' = fn := Option.some.inj (hfn'.symm.trans hfn)
  subst e
  obtain ⟨⟨⟨ds, gs, before, hw, hc⟩, hx⟩, hz⟩ := hpre
  have hw' := DataW.Whole.of_heap (w' := w.forCall tape i) (by rfl) hw
  refine (contract (w.forCall tape i) w.heap.size i.args ds gs before hval hw' hc (hz.weights hw) (hX _ _ _ (by rfl) hx) hsh hholds).mono fun e W' ⟨v, he, hp⟩ => ?_
  subst he
  exact ChangeSpec.post_blind hp
end
section
variable {H : Type} {enc : TypeId × Value → H}
set_option maxRecDepth 100000 in
theorem arr16_of_arg {W : World} {base : Nat} {v : Value} {d : DataW H} {ps : List MemPlace} (hv : Value.okWide Tryz.prog W .any base 22 v) (h : DataW.Trod enc Tryz.prog W 0 (fun _ => true) true 22 v d ps) :
    ∃ l : List UInt8, l.length = 16 ∧ v = .agg (arrB l) := by
  obtain ⟨l, hl, hw, rfl⟩ := ints_of_arg Tryz.underlying22 Tryz.underlying5 (by kernel_rfl) (by kernel_rfl) hv h
  refine ⟨l.map fun z => UInt8.ofNat z.toNat, by rw [List.length_map, hl], ?_⟩
  unfold arrB
  rw [List.map_map]
  congr 2
  apply List.map_congr_left
  intro z hz
  obtain ⟨i, hi⟩ := List.getElem?_of_mem hz
  have hb : 0 ≤ z ∧ z ≤ 255 := by simpa [Lit.wf, IntKind.min, IntKind.max, IntKind.signed, IntKind.bits] using hw i z hi
  simp only [Function.comp_apply, Value.int.injEq, true_and]
  rw [UInt8.toNat_ofNat']
  omega
end
section
variable {H : Type} {enc : TypeId × Value → H}
set_option maxRecDepth 100000 in
theorem pf_of_arg {W : World} {base : Nat} {v : Value} {d : DataW H} {ps : List MemPlace} (hv : Value.okWide Tryz.prog W .any base 24 v) (h : DataW.Trod enc Tryz.prog W 0 (fun _ => true) true 24 v d ps) :
    ∃ p : Pf, p.addr.length = 16 ∧ Len64 p ∧ v = .agg (pfA p) := by
  simp only [Value.okWide, Tryz.underlying24] at hv
  obtain ⟨cs, rfl, _⟩ := hv
  obtain ⟨fuel, hf⟩ := h
  obtain ⟨xs, n, _, _, hl, hlen, hq⟩ := DataW.trod_struct Tryz.underlying24 hf
  have hc18 : Tryz.prog.cellsOf 24 = 18 := by kernel_rfl
  rw [hc18] at hl
  have hl3 : xs.length = 3 := hlen
  obtain ⟨y0, y1, y2, rfl⟩ : ∃ y0 y1 y2, xs = [y0, y1, y2] := by
    clear hq hlen
    match xs, hl3 with
    | [y0, y1, y2], _ => exact ⟨y0, y1, y2, rfl⟩
  have q0 : DataW.trod enc Tryz.prog W 0 (fun _ => true) true n 4 ((cs.toList.drop 0).take (Tryz.prog.cellsOf 4)) = some y0 := hq 0 _ rfl
  have q1 : DataW.trod enc Tryz.prog W 0 (fun _ => true) true n 22 ((cs.toList.drop 1).take (Tryz.prog.cellsOf 22)) = some y1 := hq 1 _ rfl
  have q2 : DataW.trod enc Tryz.prog W 0 (fun _ => true) true n 3 ((cs.toList.drop 17).take (Tryz.prog.cellsOf 3)) = some y2 := hq 2 _ rfl
  rw [show Tryz.prog.cellsOf 4 = 1 by kernel_rfl] at q0
  rw [show Tryz.prog.cellsOf 22 = 16 by kernel_rfl] at q1
  rw [show Tryz.prog.cellsOf 3 = 1 by kernel_rfl] at q2
  obtain ⟨b, e0, _⟩ := DataW.trod_bool Tryz.underlying4 q0
  obtain ⟨n, e2, _, wn⟩ := DataW.trod_int Tryz.underlying3 q2
  have hc := cells_ints Tryz.underlying22 Tryz.underlying5 (by kernel_rfl) (by kernel_rfl) q1
  have hL : cs.toList.length = 18 := by simpa [Value.cells] using hl
  obtain ⟨l, hll, hlq⟩ := list_at (Q := fun i z => ((cs.toList.drop 1).take 16)[i]? = some (Value.int .u8 z) ∧ (Lit.int .u8 z).wf = true) 16 (fun i hi => by
    obtain ⟨z, h1, h2⟩ := hc i hi
    exact ⟨z, by simpa [Value.cells] using h1, h2⟩)
  have e1 : (cs.toList.drop 1).take 16 = cellsB (l.map fun z => UInt8.ofNat z.toNat) := by
    apply List.ext_getElem?
    intro i
    by_cases hi : i < 16
    · have hz : l[i]? = some l[i] := List.getElem?_eq_getElem (by omega)
      obtain ⟨h1, h2⟩ := hlq i _ hz
      have hb : 0 ≤ l[i] ∧ l[i] ≤ 255 := by simpa [Lit.wf, IntKind.min, IntKind.max, IntKind.signed, IntKind.bits] using h2
      rw [h1]
      unfold cellsB
      rw [List.getElem?_map, List.getElem?_map, hz]
      simp only [Option.map_some, Option.some.injEq, Value.int.injEq, true_and]
      rw [UInt8.toNat_ofNat']
      omega
    · rw [List.getElem?_eq_none (by simp; omega), List.getElem?_eq_none (by simp [cellsB, hll]; omega)]
  refine ⟨⟨b, l.map fun z => UInt8.ofNat z.toNat, n⟩, by simp [hll], by simpa [Len64, Lit.wf, IntKind.min, IntKind.max, IntKind.signed, IntKind.bits] using wn, ?_⟩
  have e0' : cs.toList.take 1 = [Value.bool b] := by simpa [Value.cells] using e0
  have e2' : (cs.toList.drop 17).take 1 = [Value.int .i64 n] := by simpa [Value.cells] using e2
  have h1 : cs.toList = cs.toList.take 1 ++ ((cs.toList.drop 1).take 16 ++ (cs.toList.drop 17).take 1) := by
    conv => lhs; rw [← List.take_append_drop 1 cs.toList]
    congr 1
    conv => lhs; rw [← List.take_append_drop 16 (cs.toList.drop 1)]
    congr 1
    rw [List.drop_drop]
    rw [List.take_of_length_le (by simp; omega)]
  rw [e0', e1, e2'] at h1
  congr 1
  have h2 : cs = cs.toList.toArray := by simp
  rw [h2, h1]
  rfl
end
end Go.Proofs.YtjbolphfelakeaaGreatDoor
