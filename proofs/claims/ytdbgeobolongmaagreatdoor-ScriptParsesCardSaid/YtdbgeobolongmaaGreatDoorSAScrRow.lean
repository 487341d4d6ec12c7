/- Part of the proof: ScriptLines, ScriptParses, ScriptShows. -/
import Derived.Test.YtdbgeobolongmaaGreatDoorTie
import Derived.Test.YtdbgeobolongmaaGreatDoorCards
import Derived.Stop.LaidErr
import Derived.SizedLaws
import Derived.JoinedAt
import Derived.LaidLaws
import Derived.SevenTiedAt
import Derived.HandedShaped
import Derived.Shelf.Vars
import Derived.Test.YtdbgeobolongmaaGreatDoorSA44
set_option linter.unusedVariables false
set_option linter.unusedSimpArgs false
set_option maxRecDepth 100000
namespace Go.Proofs.YtdbgeobolongmaaGreatDoor
open Go.ChangeShapes Go.WideShapes Go.ChangeAt Go.RowKit Go.Deep Go.Joins
open Go.ChangeMaps (open_string)
theorem star : "*" ++ "errors.errorString" = "*errors.errorString" := zd
theorem errRow (u : TypeId) (h : Tryz.prog.typeName? 3 u = some "*errors.errorString") : u = 246 :=
 typeName_ptr_named (nm := "errors.errorString") (by rw [star]; kernel_rfl) kf zd u (by rw [star]; exact h)
theorem gPow : Tryz.prog.globalNamed "internal/strconv.uint64pow10" = some 4 := kf
theorem gRng : Tryz.prog.globalNamed "strconv.ErrRange" = some 6 := kf
theorem gSyn : Tryz.prog.globalNamed "strconv.ErrSyntax" = some 5 := kf
theorem gTz : Tryz.prog.globalNamed "math/bits.deBruijn64tab" = some 8 := kf
theorem gNm : Tryz.prog.globalNamed "footplate/script.names" = some 0 := kf
theorem cells_of_strs {H : Type} {enc : TypeId × Value -> H} {P : Program} {w : World} {base : Nat} {sp : Nat -> Bool} {held : Bool} {fuel : Nat} {t e : TypeId} {n : Nat} {cs : List Value} {zs : List (List UInt8)} {p : List MemPlace}
  (ht : P.underlying t = some (.array n e)) (he : P.underlying e = some .string) (hce : P.cellsOf e = 1) (hct : P.cellsOf t = n)
  (h : DataW.trod enc P w base sp held fuel t cs = some (.agg (zs.map fun z => .lit (.string z)), p)) : ∀ (i : Nat) z, zs[i]? = some z -> cs[i]? = some (.string (str z)) := by
 cases fuel with
 | zero => simp [DataW.trod] at h
 |succ fuel =>
  simp only [DataW.trod, ht, hce, hct, jN] at h
  split at h
  ·rename_i hl
   obtain ⟨xs, hm, hx⟩ := bR.1 h
   have hxs : xs.map (·.1) = zs.map fun z => (DataW.lit (.string z) : DataW H) := by
    have := yG Prod.fst hx
    simpa using this
   have hxl : xs.length = n := by simpa using Lib.mapM_length hm
   have hzl : zs.length = n := by
    have := yG List.length hxs; simp at this; omega
   intro i z hz; have hi : i < n := by have := (zL.1 hz).1; omega
   obtain ⟨b, hb, hf⟩ := Lib.mapM_at hm i i (by simp [hi]); obtain ⟨s, hc, rfl, _⟩ := DataW.trod_string he hf
   have h1 : cs[i]? = some (.string s) := by
    have := yG (·[0]?) hc
    simpa [nK, fD] using this
   have h2 : (xs.map (·.1))[i]? = some (DataW.lit (.string s.data.toList) : DataW H) := by simp [hb]
   rw [hxs] at h2; simp only [jL, hz, mZ, uX, DataW.lit.injEq, Lit.string.injEq] at h2; rw [h1, h2, lG]
  ·cases h
theorem strs_of_head {P : Program} {W : World} {name : String} {zs : List (List UInt8)} {rest : List (String × DataW Unit)} {g : Nat} {t e : TypeId} {n : Nat}
  (hg : P.globalNamed name = some g) (hty : (P.globals[g]?).map (·.type) = some t) (ht : P.underlying t = some (.array n e)) (he : P.underlying e = some .string) (hce : P.cellsOf e = 1) (hct : P.cellsOf t = n)
  (h : laidMet P ((name, .agg (zs.map fun z => .lit (.string z))) :: rest) W) : ∀ (i : Nat) z, zs[i]? = some z -> W.cell? ⟨g, i, none⟩ = some (.string (str z)) := by
 obtain ⟨ps, ⟨g', t', cs, fuel, p, q, hg', ht', hvar, hd, _, _⟩, _⟩ := h; obtain rfl := vW (hg.symm.trans hg'); obtain rfl := vW (hty.symm.trans ht'); have hc := cells_of_strs ht he hce hct hd; intro i z hz; have hi := hc i z hz; rw [World.var?_cell hg (by rw [hvar]) i]
 simpa using hi
theorem zBq {W : World} (h : laidMet Tryz.prog Rows.scriptLinesRow.laid W) (hS : W.ShapedOpen Tryz.prog) : ST W := by
 obtain ⟨a0, s0, hv0, -, -, -⟩ := laid_sentinel h.tail.tail.tail.tail gRng kf Tryz.underlying137 errRow Tryz.underlying246 Tryz.underlying248 rfl rfl Tryz.underlying9 kf kf; obtain ⟨a1, s1, hv1, -, -, -⟩ := laid_sentinel h.tail.tail.tail.tail.tail gSyn kf Tryz.underlying137 errRow Tryz.underlying246 Tryz.underlying248 rfl rfl Tryz.underlying9 kf kf
 exact ⟨⟨⟨Lib.tabIs_of_head (k := .u8) (zs := bruijn) gTz kf Tryz.underlying250 Tryz.underlying5 kf kf h.tail,
   cell_of_shapedOpen_int (zero := #[.int .i64 0]) hS (kV kf) kf rfl kf kf Tryz.underlying3⟩,
  ⟨Lib.tabIs_of_head (k := .u64) (zs := Lib.pow10Tab) gPow kf Tryz.underlying235 Tryz.underlying205 kf kf h.tail.tail, ⟨_, _, hv1⟩, ⟨_, _, hv0⟩⟩⟩,
  strs_of_head (zs := Sc.names) gNm kf Tryz.underlying82 Tryz.underlying9 kf kf h.tail.tail.tail.tail.tail.tail⟩
def litsOf : DataW Unit -> Array Value
 | .agg xs => (xs.map fun | .lit (.int k n) => Value.int k n | _ => .int .u8 0).toArray
 | _ => #[]
noncomputable def low : Nat := (World.holding Tryz.prog default ⟨#[], #[], []⟩).heap.size
def wD (cs : Array Value) : Obj -> Obj
 | .cells _ t frozen => .cells cs t frozen
 | o => o
def litsOf2 : DataW Unit -> Array Value
 | .agg xs => (xs.flatMap fun | .lit (.int k n) => [Value.int k n] | .agg ys => (ys.map fun | .lit (.int k n) => Value.int k n | _ => .int .u8 0) | _ => []).toArray
 | _ => #[]
def litsOfS : DataW Unit -> Array Value
 | .agg xs => (xs.map fun | .lit (.string z) => Value.string (str z) | _ => .int .u8 0).toArray
 | _ => #[]
noncomputable def laidWorld (os : Os) : World :=
 let w0 := World.holding Tryz.prog os ⟨#[.cells #[.string ⟨#[118, 97, 108, 117, 101, 32, 111, 117, 116, 32, 111, 102, 32, 114, 97, 110, 103, 101]⟩] 248, .cells #[.string ⟨#[105, 110, 118, 97, 108, 105, 100, 32, 115, 121, 110, 116, 97, 120]⟩] 248], #[], []⟩
 { w0 with heap := (((((((w0.heap.modify 7 (wD (litsOf Rows.laid_math_bits_deBruijn32tab))).modify 8 (wD (litsOf Rows.laid_math_bits_deBruijn64tab))).modify 4 (wD (litsOf Rows.laid_internal_strconv_uint64pow10))).modify 3 (wD (litsOf2 Rows.laid_unicode_utf8_acceptRanges))).modify 6 (wD #[.iface 246 (.pointer (some ⟨low, 0, none⟩))])).modify 5 (wD #[.iface 246 (.pointer (some ⟨low + 1, 0, none⟩))])).modify 0 (wD (litsOfS Rows.laid_footplate_script_names))).modify 2 (wD (litsOf2 Rows.laid_unicode_utf8_first)) }
theorem nR (os : Os) (args : Array Value) : laidMet Tryz.prog Rows.scriptLinesRow.laid ((laidWorld os).forCall (fun _ _ => 0) ⟨#[], args, []⟩).memory :=
 laidMet_of_run' 8 kf kf
section
variable {H : Type} {enc : TypeId × Value -> H}
theorem sS {a : Assume} {C : Checked} {os : Os} {f : FuncId} {fn : Func} {s : ChangeSpec} {conds : List PathCond} {apart fresh handsOn again : Bool} {X : World -> Array Value -> Prop}
  (hX : ∀ (w w' : World) (args : Array Value), w.heap = w'.heap -> X w args -> X w' args)
  (own : ownKnob C.prog.godebug = none) (started : os.Started) (noInit : C.prog.inits.idxOf? f = none) (hfn : C.prog.funcs[f]? = some fn)
  (witness : ∃ (w : World) (tape : Tape) (i : Input), w.os = os /\ (w.forCall tape i).Shaped C.prog /\ i.vars = [] /\ Input.okWide C.prog (w.forCall tape i) .any w.heap.size f i /\
   ((s.pre enc C.prog fn conds apart (w.forCall tape i).memory i.args /\ X (w.forCall tape i).memory i.args) /\ sizedMet enc C.prog fn (OpenSpec.ofChange s) apart (w.forCall tape i).memory i.args) /\ a.holds C.prog (lone (Frame.enter C.prog f i.args .normal) [] (w.forCall tape i)))
  (contract : ∀ (W : World) (base : Nat) (args : Array Value) (ds gs : List (DataW H)) (before : List MemPlace),
   (∀ (j : Nat) t v, fn.params[j]? = some t -> args[j]? = some v -> Value.okWide C.prog W .any base t v) ->
   DataW.Whole enc C.prog fn.params.toList s.vars apart W args.toList ds gs before ->
   conds.all (PathCond.test C.prog ⟨fn.params.toList, ds, s.plain.varTypes C.prog, gs⟩) = true ->
   (DataW.weightsEach C.prog (fn.params.toList ++ s.plain.varTypes C.prog) (ds ++ gs)).all (· <= reachBytes) = true -> X W args -> W.ShapedOpen C.prog ->
   a.holds C.prog (lone (Frame.enter C.prog f args .normal) [] W) ->
   Calls C.prog f args W fun e W' => ∃ v, e = .returned v /\ s.post enc C.prog fn apart fresh handsOn again W args v W') :
  ReturnsInHanded a C os f .any (fun w args => (s.pre enc C.prog fn conds apart w args /\ X w args) /\ sizedMet enc C.prog fn (OpenSpec.ofChange s) apart w args) (s.post enc C.prog fn apart fresh handsOn again) := by
 refine returnsInHanded_of_calls own started noInit witness ?_; intro w tape i _ hsh _ hok hpre hholds; obtain ⟨_, _, _, fn', hfn', _, _, _, _, hval⟩ := hok; have e : fn' = fn := vW (hfn'.symm.trans hfn); subst e; obtain ⟨⟨⟨ds, gs, before, hw, hc⟩, hx⟩, hz⟩ := hpre; have hw' := DataW.Whole.of_heap (w' := w.forCall tape i) rf hw; refine (contract (w.forCall tape i) w.heap.size i.args ds gs before hval hw' hc (hz.weights hw) (hX _ _ _ rf hx) hsh hholds).mono fun e W' ⟨v, he, hp⟩ => ?_; subst he; exact ChangeSpec.post_blind hp
end
end Go.Proofs.YtdbgeobolongmaaGreatDoor
