/- The rows of layer 1: what a row lists gives the tables; the laid world; arguments. -/
import Derived.Test.YtlefkmgcahpobaaDoorRow3
import Derived.Test.YtlefkmgcahpobaaDoorTie
import Derived.Test.YtlefkmgcahpobaaDoorCards
import Derived.Test.YtlefkmgcahpobaaDoorOctetLaw3
import Derived.Test.YtlefkmgcahpobaaDoorOctetLaw4
import Derived.Test.YtlefkmgcahpobaaDoorOctetLaw5
import Derived.Lib.LaidTab
import Derived.Stop.LaidErr
import Derived.SizedLaws
import Derived.JoinedAt
import Derived.LaidLaws
import Derived.SevenTiedAt
import Derived.RowKit3
import Derived.ChangeMaps5
namespace Go.Proofs.YtlefkmgcahpobaaDoor
open Go.ChangeShapes Go.WideShapes Go.ChangeAt Go.RowKit Go.Deep Go.Joins
open Go.ChangeMaps (open_string)
set_option linter.unusedVariables false
set_option linter.unusedSimpArgs false

theorem star : "*" ++ "errors.errorString" = "*errors.errorString" := by decide
/-- the one type of that name -/
theorem errRow (u : TypeId) (h : Tryd.prog.typeName? 3 u = some "*errors.errorString") : u = 125 :=
  typeName_ptr_named (nm := "errors.errorString") (by rw [star]; kernel_rfl) (by kernel_rfl) (by decide) u (by rw [star]; exact h)
theorem gPow : Tryd.prog.globalNamed "internal/strconv.uint64pow10" = some 3 := by kernel_rfl
theorem gRng : Tryd.prog.globalNamed "strconv.ErrRange" = some 2 := by kernel_rfl
theorem gSyn : Tryd.prog.globalNamed "strconv.ErrSyntax" = some 1 := by kernel_rfl
theorem tabs_of_laid {W : World} (h : laidMet Tryd.prog Rows.octetGetsRow.laid W) : Tabs W := by
  obtain ⟨a0, s0, hv0, -, -, -⟩ := laid_sentinel h.tail.tail.tail gRng (by kernel_rfl) Tryd.underlying71 errRow Tryd.underlying125 Tryd.underlying127 rfl rfl Tryd.underlying9 (by kernel_rfl) (by kernel_rfl)
  obtain ⟨a1, s1, hv1, -, -, -⟩ := laid_sentinel h.tail.tail.tail.tail gSyn (by kernel_rfl) Tryd.underlying71 errRow Tryd.underlying125 Tryd.underlying127 rfl rfl Tryd.underlying9 (by kernel_rfl) (by kernel_rfl)
  exact ⟨Lib.tabIs_of_head (k := .u64) (zs := Lib.pow10Tab) gPow (by kernel_rfl) Tryd.underlying129 Tryd.underlying24 (by kernel_rfl) (by kernel_rfl) h.tail.tail, ⟨_, _, hv1⟩, ⟨_, _, hv0⟩⟩

/-- the values of a table's datum -/
def litsOf : DataW Unit → Array Value
  | .agg xs => (xs.map fun | .lit (.int k n) => Value.int k n | _ => .int .u8 0).toArray
  | _ => #[]
/-- so many blocks has the settled world -/
noncomputable def low : Nat := (World.holding Tryd.prog default ⟨#[], #[], []⟩).heap.size
/-- a variable's block, as its initialiser lays it -/
def layCells (cs : Array Value) : Obj → Obj
  | .cells _ t frozen => .cells cs t frozen
  | o => o
/-- the settled world with the tables, and two errors in two blocks more -/
noncomputable def laidWorld (os : Os) : World :=
  let w0 := World.holding Tryd.prog os ⟨#[.cells #[.string ⟨#[118, 97, 108, 117, 101, 32, 111, 117, 116, 32, 111, 102, 32, 114, 97, 110, 103, 101]⟩] 127, .cells #[.string ⟨#[105, 110, 118, 97, 108, 105, 100, 32, 115, 121, 110, 116, 97, 120]⟩] 127], #[], []⟩
  { w0 with heap := ((((w0.heap.modify 4 (layCells (litsOf Rows.laid_math_bits_deBruijn32tab))).modify 5 (layCells (litsOf Rows.laid_math_bits_deBruijn64tab))).modify 3 (layCells (litsOf Rows.laid_internal_strconv_uint64pow10))).modify 2 (layCells #[.iface 125 (.pointer (some ⟨low, 0, none⟩))])).modify 1 (layCells #[.iface 125 (.pointer (some ⟨low + 1, 0, none⟩))]) }
set_option maxRecDepth 100000 in
theorem laidWorld_met (os : Os) (args : Array Value) : laidMet Tryd.prog Rows.octetGetsRow.laid ((laidWorld os).forCall (fun _ _ => 0) ⟨#[], args, []⟩).memory :=
  laidMet_of_run' 8 (by kernel_rfl) (by kernel_rfl)

section
variable {H : Type} {enc : TypeId × Value → H}

set_option maxRecDepth 100000 in
/-- an argument that is bytes -/
theorem bytes_of_arg {W : World} {base : Nat} {v : Value} {d : DataW H} {ps : List MemPlace} (hv : Value.okWide Tryd.prog W .any base 22 v) (h : DataW.Trod enc Tryd.prog W 0 (fun _ => true) true 22 v d ps) : ∃ l : List UInt8, SlR W 1 encB v l := by
  obtain ⟨l, hl⟩ := sl_of_arg (ec := fun y : UInt8 => encB y) (fun _ => rfl) (by kernel_rfl) (by kernel_rfl) hv h (fun fuel cs x hl hh => by
    obtain ⟨y, e, hw⟩ := el_int Tryd.underlying5 fuel cs x hl hh
    have hb : 0 ≤ y ∧ y ≤ 255 := by simpa [Lit.wf, IntKind.min, IntKind.max, IntKind.signed, IntKind.bits] using hw
    refine ⟨UInt8.ofNat y.toNat, ?_⟩
    rw [e]
    unfold encB
    rw [UInt8.toNat_ofNat']
    congr 2
    omega)
  exact ⟨l, hl⟩

set_option maxRecDepth 100000 in
theorem asked_of_arg {W : World} {base : Nat} {v : Value} {d : DataW H} {ps : List MemPlace} (hv : Value.okWide Tryd.prog W .any base 46 v) (h : DataW.Trod enc Tryd.prog W 0 (fun _ => true) true 46 v d ps) :
    ∃ (l : List UInt8) (u : Value) (a z : Int) (x : Nat), v = .agg #[u, .int .u8 a, .int .u8 z, .int .u64 x] ∧ SlR W 1 encB u l ∧ (0 ≤ a ∧ a ≤ 255) ∧ (0 ≤ z ∧ z ≤ 255) ∧ x < 18446744073709551616 := by
  have hv' := hv
  obtain ⟨c0, c1, c2, c3, y0, y1, y2, y3, n, rfl, rfl, rfl, h0, h1, h2, h3⟩ := open_agg4 Tryd.underlying46 (by kernel_rfl) (by kernel_rfl) hv h
  obtain ⟨a, e1, _, w1⟩ := DataW.trod_int Tryd.underlying5 h1
  obtain ⟨z, e2, _, w2⟩ := DataW.trod_int Tryd.underlying5 h2
  obtain ⟨x, e3, _, w3⟩ := DataW.trod_int Tryd.underlying24 h3
  simp at e1 e2 e3
  subst e1 e2 e3
  have b1 : 0 ≤ a ∧ a ≤ 255 := by simpa [Lit.wf, IntKind.min, IntKind.max, IntKind.signed, IntKind.bits] using w1
  have b2 : 0 ≤ z ∧ z ≤ 255 := by simpa [Lit.wf, IntKind.min, IntKind.max, IntKind.signed, IntKind.bits] using w2
  have b3 : 0 ≤ x ∧ x ≤ 18446744073709551615 := by simpa [Lit.wf, IntKind.min, IntKind.max, IntKind.signed, IntKind.bits] using w3
  have hs : Value.okWide Tryd.prog W .any base 22 c0 := by
    simp only [Value.okWide, Tryd.underlying46] at hv'
    obtain ⟨cs, e, _, ts, hts, _, hrow⟩ := hv'
    cases e
    obtain ⟨u, hu, hc⟩ := hrow 0 c0 rfl
    have hts' : Tryd.prog.cellTypes Tryd.prog.depth 46 = some [22, 5, 5, 24] := by kernel_rfl
    rw [hts'] at hts
    cases hts
    cases hu
    simp only [Value.okWide, Tryd.underlying22]
    exact hc
  have ht : DataW.Trod enc Tryd.prog W 0 (fun _ => true) true 22 c0 y0.1 y0.2 := by
    obtain ⟨a0, len0, cap0, rfl⟩ := okWide_slice Tryd.underlying22 hs
    exact ⟨n, h0⟩
  obtain ⟨l, hl⟩ := bytes_of_arg hs ht
  obtain ⟨X, rfl⟩ : ∃ X : Nat, x = X := ⟨x.toNat, by omega⟩
  exact ⟨l, c0, a, z, X, rfl, hl, b1, b2, by omega⟩
end
end Go.Proofs.YtlefkmgcahpobaaDoor
