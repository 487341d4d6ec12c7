/- The rows of layer 26: the tables; the laid world; arguments. -/
import Derived.Test.YtilahcnpjbnjiaaGreatDoorMRow
import Derived.Test.YtilahcnpjbnjiaaGreatDoorTie
import Derived.Test.YtilahcnpjbnjiaaGreatDoorCards
import Derived.Test.YtilahcnpjbnjiaaGreatDoorSegAny
import Derived.Lib.LaidTab
import Derived.Stop.LaidErr
import Derived.SizedLaws
import Derived.JoinedAt
import Derived.LaidLaws
import Derived.SevenTiedAt
import Derived.RowKit3
import Derived.ChangeMaps5
namespace Go.Proofs.YtilahcnpjbnjiaaGreatDoor
open Go.ChangeShapes Go.WideShapes Go.ChangeAt Go.RowKit Go.Deep Go.Joins
open Go.ChangeMaps (open_string)
set_option linter.unusedVariables false
set_option linter.unusedSimpArgs false

theorem star : "*" ++ "errors.errorString" = "*errors.errorString" := by decide
/-- the one type of that name -/
theorem errRow (u : TypeId) (h : Tryz.prog.typeName? 3 u = some "*errors.errorString") : u = 180 :=
  typeName_ptr_named (nm := "errors.errorString") (by rw [star]; kernel_rfl) (by kernel_rfl) (by decide) u (by rw [star]; exact h)
theorem gPow : Tryz.prog.globalNamed "internal/strconv.uint64pow10" = some 3 := by kernel_rfl
theorem gRng : Tryz.prog.globalNamed "strconv.ErrRange" = some 2 := by kernel_rfl
theorem gSyn : Tryz.prog.globalNamed "strconv.ErrSyntax" = some 1 := by kernel_rfl
theorem tabs_of_laid {W : World} (h : laidMet Tryz.prog Rows.segmentTextsRow.laid W) : Tabs W := by
  obtain ⟨a0, s0, hv0, -, -, -⟩ := laid_sentinel h.tail.tail.tail gRng (by kernel_rfl) Tryz.underlying108 errRow Tryz.underlying180 Tryz.underlying182 rfl rfl Tryz.underlying9 (by kernel_rfl) (by kernel_rfl)
  obtain ⟨a1, s1, hv1, -, -, -⟩ := laid_sentinel h.tail.tail.tail.tail gSyn (by kernel_rfl) Tryz.underlying108 errRow Tryz.underlying180 Tryz.underlying182 rfl rfl Tryz.underlying9 (by kernel_rfl) (by kernel_rfl)
  exact ⟨Lib.tabIs_of_head (k := .u64) (zs := Lib.pow10Tab) gPow (by kernel_rfl) Tryz.underlying171 Tryz.underlying155 (by kernel_rfl) (by kernel_rfl) h.tail.tail, ⟨_, _, hv1⟩, ⟨_, _, hv0⟩⟩

/-- the values of a table's datum -/
def litsOf : DataW Unit → Array Value
  | .agg xs => (xs.map fun | .lit (.int k n) => Value.int k n | _ => .int .u8 0).toArray
  | _ => #[]
/-- so many blocks has the settled world -/
noncomputable def low : Nat := (World.holding Tryz.prog default ⟨#[], #[], []⟩).heap.size
/-- a variable's block, as its initialiser lays it -/
def layCells (cs : Array Value) : Obj → Obj
  | .cells _ t frozen => .cells cs t frozen
  | o => o
/-- the settled world with the tables, and two errors in two blocks more -/
noncomputable def laidWorld (os : Os) : World :=
  let w0 := World.holding Tryz.prog os ⟨#[.cells #[.string ⟨#[118, 97, 108, 117, 101, 32, 111, 117, 116, 32, 111, 102, 32, 114, 97, 110, 103, 101]⟩] 182, .cells #[.string ⟨#[105, 110, 118, 97, 108, 105, 100, 32, 115, 121, 110, 116, 97, 120]⟩] 182], #[], []⟩
  { w0 with heap := ((((w0.heap.modify 4 (layCells (litsOf Rows.laid_math_bits_deBruijn32tab))).modify 5 (layCells (litsOf Rows.laid_math_bits_deBruijn64tab))).modify 3 (layCells (litsOf Rows.laid_internal_strconv_uint64pow10))).modify 2 (layCells #[.iface 180 (.pointer (some ⟨low, 0, none⟩))])).modify 1 (layCells #[.iface 180 (.pointer (some ⟨low + 1, 0, none⟩))]) }
set_option maxRecDepth 100000 in
theorem laidWorld_met (os : Os) (args : Array Value) : laidMet Tryz.prog Rows.segmentTextsRow.laid ((laidWorld os).forCall (fun _ _ => 0) ⟨#[], args, []⟩).memory :=
  laidMet_of_run' 8 (by kernel_rfl) (by kernel_rfl)

section
variable {H : Type} {enc : TypeId × Value → H}
theorem num_wf {y : Int} (h : (Lit.int .i64 y).wf = true) : -9223372036854775808 ≤ y ∧ y ≤ 9223372036854775807 := by
  simpa [Lit.wf, IntKind.min, IntKind.max, IntKind.signed, IntKind.bits] using h
theorem SlR.unbound {α : Type} {p : α → Prop} {W : World} {k : Nat} {ec : α → List Value} {v : Value} {l : List { x : α // p x }} (h : SlR W k (fun y : { x : α // p x } => ec y.1) v l) : SlR W k ec v (l.map (·.1)) := by
  obtain ⟨q, c, rfl, h2, h3, h4, h5⟩ := h
  refine ⟨q, c, by rw [List.length_map], by rw [List.length_map]; exact h2, h3, fun e => by rw [List.length_map]; exact h4 e, fun a ha => ?_⟩
  obtain ⟨h6, h7, h8⟩ := h5 a ha
  refine ⟨h6, h7, fun i x hx j u hu => ?_⟩
  rw [List.getElem?_map] at hx
  cases hy : l[i]? with
  | none => rw [hy] at hx; cases hx
  | some y =>
    rw [hy] at hx
    cases hx
    exact h8 i y hy j u hu
set_option maxRecDepth 100000 in
theorem ints_of_arg15 {W : World} {base : Nat} {v : Value} {d : DataW H} {ps : List MemPlace} (hv : Value.okWide Tryz.prog W .any base 39 v) (h : DataW.Trod enc Tryz.prog W 0 (fun _ => true) true 39 v d ps) : ∃ l : List Int, SlR W 1 encI v l :=
  sl_of_arg (ec := encI) (fun _ => rfl) (by kernel_rfl) (by kernel_rfl) hv h (fun fuel cs x hl hh => by
    obtain ⟨y, e, hw⟩ := el_int Tryz.underlying3 fuel cs x hl hh
    exact ⟨y, e⟩)
theorem el_bi {P : Program} {e b q : TypeId} {f0 f1 : Field} (he : P.underlying e = some (.struct #[f0, f1])) (o0 : f0.offset = 0) (o1 : f1.offset = 1) (t0 : f0.type = b) (t1 : f1.type = q) (cb : P.cellsOf b = 1) (cq : P.cellsOf q = 1) (hb : P.underlying b = some .bool) (hq : P.underlying q = some (.int .i64))
    {W : World} (fuel : Nat) (cs : List Value) (x : DataW H × List MemPlace) (hl : cs.length = 2) (h : DataW.trod enc P W 0 (fun _ => true) true fuel e cs = some x) : ∃ y : { y : Sg.Seg // -9223372036854775808 ≤ y.n ∧ y.n ≤ 9223372036854775807 }, cs = encG y.1 := by
  obtain ⟨ys, n', hn', hy, hlen, hyl, hf⟩ := DataW.trod_struct he h
  match ys, hyl, cs, hl with
  | [y0, y1], _, [v0, v1], _ =>
    have k0 := hf 0 f0 rfl
    have k1 := hf 1 f1 rfl
    simp [o0, o1, t0, t1, cb, cq] at k0 k1
    obtain ⟨a, e0, _⟩ := DataW.trod_bool hb k0
    obtain ⟨b, e1, w1⟩ := el_int hq _ _ _ rfl k1
    simp at e0 e1
    subst e0 e1
    exact ⟨⟨⟨a, b⟩, num_wf w1⟩, rfl⟩
theorem el_ii {P : Program} {e q : TypeId} {f0 f1 : Field} (he : P.underlying e = some (.struct #[f0, f1])) (o0 : f0.offset = 0) (o1 : f1.offset = 1) (t0 : f0.type = q) (t1 : f1.type = q) (cq : P.cellsOf q = 1) (hq : P.underlying q = some (.int .i64))
    {W : World} (fuel : Nat) (cs : List Value) (x : DataW H × List MemPlace) (hl : cs.length = 2) (h : DataW.trod enc P W 0 (fun _ => true) true fuel e cs = some x) : ∃ y : Sp.S, cs = encSp y := by
  obtain ⟨ys, n', hn', hy, hlen, hyl, hf⟩ := DataW.trod_struct he h
  match ys, hyl, cs, hl with
  | [y0, y1], _, [v0, v1], _ =>
    have k0 := hf 0 f0 rfl
    have k1 := hf 1 f1 rfl
    simp [o0, o1, t0, t1, cq] at k0 k1
    obtain ⟨a, e0, _⟩ := el_int hq _ _ _ rfl k0
    obtain ⟨b, e1, _⟩ := el_int hq _ _ _ rfl k1
    simp at e0 e1
    subst e0 e1
    exact ⟨(a, b), rfl⟩
theorem el_seg {W : World} (fuel : Nat) (cs : List Value) (x : DataW H × List MemPlace) (hl : cs.length = 2) (h : DataW.trod enc Tryz.prog W 0 (fun _ => true) true fuel 65 cs = some x) : ∃ y : { y : Sg.Seg // -9223372036854775808 ≤ y.n ∧ y.n ≤ 9223372036854775807 }, cs = encG y.1 :=
  el_bi Tryz.underlying65 rfl rfl rfl rfl (by kernel_rfl) (by kernel_rfl) Tryz.underlying4 Tryz.underlying3 fuel cs x hl h
theorem el_sp {W : World} (fuel : Nat) (cs : List Value) (x : DataW H × List MemPlace) (hl : cs.length = 2) (h : DataW.trod enc Tryz.prog W 0 (fun _ => true) true fuel 35 cs = some x) : ∃ y : Sp.S, cs = encSp y :=
  el_ii Tryz.underlying35 rfl rfl rfl rfl (by kernel_rfl) Tryz.underlying3 fuel cs x hl h
set_option maxRecDepth 100000 in
theorem segs_of_arg {W : World} {base : Nat} {v : Value} {d : DataW H} {ps : List MemPlace} (hv : Value.okWide Tryz.prog W .any base 22 v) (h : DataW.Trod enc Tryz.prog W 0 (fun _ => true) true 22 v d ps) : ∃ l : List Sg.Seg, I64s l ∧ SlR W 2 encG v l := by
  obtain ⟨l, hl⟩ := sl_of_arg (ec := fun y : { y : Sg.Seg // -9223372036854775808 ≤ y.n ∧ y.n ≤ 9223372036854775807 } => encG y.1) (fun y => encG_len y.1) (by kernel_rfl) (by kernel_rfl) hv h (fun fuel cs x hl hh => el_seg fuel cs x hl hh)
  exact ⟨l.map (·.1), fun x hx => (by obtain ⟨y, _, rfl⟩ := List.mem_map.1 hx; exact y.2), hl.unbound⟩
set_option maxRecDepth 100000 in
theorem spans_of_arg {W : World} {base : Nat} {v : Value} {d : DataW H} {ps : List MemPlace} (hv : Value.okWide Tryz.prog W .any base 36 v) (h : DataW.Trod enc Tryz.prog W 0 (fun _ => true) true 36 v d ps) : ∃ l : List Sp.S, SlR W 2 encSp v l :=
  sl_of_arg (ec := encSp) encSp_len (by kernel_rfl) (by kernel_rfl) hv h (fun fuel cs x hl hh => el_sp fuel cs x hl hh)
set_option maxRecDepth 100000 in
theorem areas_of_arg {W : World} {base : Nat} {v : Value} {d : DataW H} {ps : List MemPlace} (hv : Value.okWide Tryz.prog W .any base 38 v) (h : DataW.Trod enc Tryz.prog W 0 (fun _ => true) true 38 v d ps) :
    ∃ (a b c d : Int) (T : List Sp.S) (t : Value), v = .agg #[.int .i64 a, .int .i64 b, .int .i64 c, .int .i64 d, t] ∧ SlR W 2 encSp t T := by
  have hv' := hv
  simp only [Value.okWide, Tryz.underlying38] at hv
  obtain ⟨cs, rfl, _⟩ := hv
  obtain ⟨fuel, hf⟩ := h
  obtain ⟨xs, n, _, _, hl, hlen, hq⟩ := DataW.trod_struct Tryz.underlying38 hf
  have hc5 : Tryz.prog.cellsOf 38 = 5 := by kernel_rfl
  rw [hc5] at hl
  have hl3 : xs.length = 3 := hlen
  have hL : cs.toList.length = 5 := by simpa [Value.cells] using hl
  obtain ⟨a0, a1, a2, a3, a4, hcs⟩ : ∃ a0 a1 a2 a3 a4, cs.toList = [a0, a1, a2, a3, a4] := by
    clear hq hlen hv' hf hl
    match cs.toList, hL with
    | [a0, a1, a2, a3, a4], _ => exact ⟨a0, a1, a2, a3, a4, rfl⟩
  obtain rfl : cs = #[a0, a1, a2, a3, a4] := by
    have h2 : cs = cs.toList.toArray := by simp
    rw [h2, hcs]
  obtain ⟨y0, y1, y2, rfl⟩ : ∃ y0 y1 y2, xs = [y0, y1, y2] := by
    clear hq hlen
    match xs, hl3 with
    | [y0, y1, y2], _ => exact ⟨y0, y1, y2, rfl⟩
  have c1 : Tryz.prog.cellsOf 35 = 2 := by kernel_rfl
  have c2 : Tryz.prog.cellsOf 36 = 1 := by kernel_rfl
  have q0 : DataW.trod enc Tryz.prog W 0 (fun _ => true) true n 35 (([a0, a1, a2, a3, a4].drop 0).take (Tryz.prog.cellsOf 35)) = some y0 := hq 0 _ rfl
  have q1 : DataW.trod enc Tryz.prog W 0 (fun _ => true) true n 35 (([a0, a1, a2, a3, a4].drop 2).take (Tryz.prog.cellsOf 35)) = some y1 := hq 1 _ rfl
  have q2 : DataW.trod enc Tryz.prog W 0 (fun _ => true) true n 36 (([a0, a1, a2, a3, a4].drop 4).take (Tryz.prog.cellsOf 36)) = some y2 := hq 2 _ rfl
  rw [c1] at q0 q1
  rw [c2] at q2
  simp only [List.drop_zero, List.drop_succ_cons, List.take_succ_cons, List.take_zero] at q0 q1 q2
  obtain ⟨s0, e0⟩ := el_sp _ _ _ rfl q0
  obtain ⟨s1, e1⟩ := el_sp _ _ _ rfl q1
  simp only [encSp, List.cons.injEq, and_true] at e0 e1
  obtain ⟨rfl, rfl⟩ := e0
  obtain ⟨rfl, rfl⟩ := e1
  have hs : Value.okWide Tryz.prog W .any base 36 a4 := by
    simp only [Value.okWide, Tryz.underlying38] at hv'
    obtain ⟨cs, e, _, ts, hts, _, hrow⟩ := hv'
    cases e
    have hts' : Tryz.prog.cellTypes Tryz.prog.depth 38 = some [3, 3, 3, 3, 36] := by kernel_rfl
    rw [hts'] at hts
    cases hts
    obtain ⟨u, hu, hc⟩ := hrow 4 a4 rfl
    cases hu
    simp only [Value.okWide, Tryz.underlying36]
    exact hc
  have ht : DataW.Trod enc Tryz.prog W 0 (fun _ => true) true 36 a4 y2.1 y2.2 := by
    obtain ⟨a0, len0, cap0, rfl⟩ := okWide_slice Tryz.underlying36 hs
    exact ⟨n, q2⟩
  obtain ⟨T, hT⟩ := spans_of_arg hs ht
  exact ⟨s0.1, s0.2, s1.1, s1.2, T, a4, rfl, hT⟩
end
end Go.Proofs.YtilahcnpjbnjiaaGreatDoor
