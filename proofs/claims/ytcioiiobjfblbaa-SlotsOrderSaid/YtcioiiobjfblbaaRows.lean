/-
  No cell of these rows narrows 'for every input' (looked for: loops, veiled, ifaces, maps, wideKeys, modest, calm, conditions, laid).
  DERIVED. THE GIVEN ROWS OF THIS SEAT. 8 by the template 'for every input the law returns true; each argument reads behind the call as it read before'; 0 by the template 'total and deterministic' (their statements: YtcioiiobjfblbaaTotals.lean).
  GIVEN WITH THE SEED: the statements are not yours to turn. If you find one false, say at which input.
  Laid BY PROGRAM, IN A SANDBOX (cutbox-rows.mjs): the forced cells as the released guide's own fill.sh prints them over the translation 15d795f3738b2891… (all of the seat's roots in one cut). By AI agents, Wed Nov 11 2026. No macro, syntax, notation, axiom, sorry.
-/
import Derived.Test.YtcioiiobjfblbaaChecked
import GoSem.Claim
import GoSem.ClaimJoined
import GoSem.ClaimMapViews
import Derived.JoinedTies
import Derived.KernelRfl
namespace Go.Proofs.Ytcioiiobjfblbaa
/- THE CELL 'sum', in the pinned program and in every row, IS THE sha256 OF THE DUMP (.gsa) THAT YtcioiiobjfblbaaProg.lean LOADS. Nothing in Lean hashes anything: it is a label: what it is worth is what the hold of that sum in a sandbox is worth. -/
noncomputable def Try.pinned : Pinned := { name := "ytcioiiobjfblbaa", sum := "15d795f3738b2891770fa4a297b76d6cb85c72a16961a7cc7dae456bf8013a69", checked := Try.checked }
namespace Rows
def none {H : Type} : Left H := { results := [], args := [] }

/-- 'footplatelaw11.SpansNorm': WHATEVER THE INPUT: true; the input reads as it did. -/
def spansNormSpec : ChangeSpec := { name := "spansNorm", fn := fun _ => fun
  | [d1, d2] => { results := [.lit (.bool true)], args := [d1, d2] }
  | _ => none }
def spansNormRow : OpenClaim := { program := "ytcioiiobjfblbaa", sum := "15d795f3738b2891770fa4a297b76d6cb85c72a16961a7cc7dae456bf8013a69", func := "footplate/footplatelaw11.SpansNorm", spec := "spansNorm", unfollowed := true, recurses := true, apart := false }
def SpansNormSaid : Prop := spansNormRow.holds Try.pinned (OpenSpec.ofChange spansNormSpec)

/-- ITS FALSE NEIGHBOUR: 'it returns false'. Refute it at one input. -/
def spansNormWrong : ChangeSpec := { name := "spansNorm", fn := fun _ => fun
  | [d1, d2] => { results := [.lit (.bool false)], args := [d1, d2] }
  | _ => none }
def SpansNormWrongFalsely : Prop := spansNormRow.holds Try.pinned (OpenSpec.ofChange spansNormWrong)

/-- 'footplatelaw11.SpansTell': WHATEVER THE INPUT: true; the input reads as it did. -/
def spansTellSpec : ChangeSpec := { name := "spansTell", fn := fun _ => fun
  | [d1, d2, d3] => { results := [.lit (.bool true)], args := [d1, d2, d3] }
  | _ => none }
def spansTellRow : OpenClaim := { program := "ytcioiiobjfblbaa", sum := "15d795f3738b2891770fa4a297b76d6cb85c72a16961a7cc7dae456bf8013a69", func := "footplate/footplatelaw11.SpansTell", spec := "spansTell", unfollowed := true, recurses := true, apart := false }
def SpansTellSaid : Prop := spansTellRow.holds Try.pinned (OpenSpec.ofChange spansTellSpec)

/-- ITS FALSE NEIGHBOUR: 'it returns false'. Refute it at one input. -/
def spansTellWrong : ChangeSpec := { name := "spansTell", fn := fun _ => fun
  | [d1, d2, d3] => { results := [.lit (.bool false)], args := [d1, d2, d3] }
  | _ => none }
def SpansTellWrongFalsely : Prop := spansTellRow.holds Try.pinned (OpenSpec.ofChange spansTellWrong)

/-- 'footplatelaw11.SpansLabels': WHATEVER THE INPUT: true; the input reads as it did. -/
def spansLabelsSpec : ChangeSpec := { name := "spansLabels", fn := fun _ => fun
  | [d1, d2, d3] => { results := [.lit (.bool true)], args := [d1, d2, d3] }
  | _ => none }
def spansLabelsRow : OpenClaim := { program := "ytcioiiobjfblbaa", sum := "15d795f3738b2891770fa4a297b76d6cb85c72a16961a7cc7dae456bf8013a69", func := "footplate/footplatelaw11.SpansLabels", spec := "spansLabels", unfollowed := true, recurses := true, apart := false }
def SpansLabelsSaid : Prop := spansLabelsRow.holds Try.pinned (OpenSpec.ofChange spansLabelsSpec)

/-- ITS FALSE NEIGHBOUR: 'it returns false'. Refute it at one input. -/
def spansLabelsWrong : ChangeSpec := { name := "spansLabels", fn := fun _ => fun
  | [d1, d2, d3] => { results := [.lit (.bool false)], args := [d1, d2, d3] }
  | _ => none }
def SpansLabelsWrongFalsely : Prop := spansLabelsRow.holds Try.pinned (OpenSpec.ofChange spansLabelsWrong)

/-- 'footplatelaw11.SpansBack': WHATEVER THE INPUT: true; the input reads as it did. -/
def spansBackSpec : ChangeSpec := { name := "spansBack", fn := fun _ => fun
  | [d1, d2, d3] => { results := [.lit (.bool true)], args := [d1, d2, d3] }
  | _ => none }
def spansBackRow : OpenClaim := { program := "ytcioiiobjfblbaa", sum := "15d795f3738b2891770fa4a297b76d6cb85c72a16961a7cc7dae456bf8013a69", func := "footplate/footplatelaw11.SpansBack", spec := "spansBack", unfollowed := true, recurses := true, apart := false }
def SpansBackSaid : Prop := spansBackRow.holds Try.pinned (OpenSpec.ofChange spansBackSpec)

/-- ITS FALSE NEIGHBOUR: 'it returns false'. Refute it at one input. -/
def spansBackWrong : ChangeSpec := { name := "spansBack", fn := fun _ => fun
  | [d1, d2, d3] => { results := [.lit (.bool false)], args := [d1, d2, d3] }
  | _ => none }
def SpansBackWrongFalsely : Prop := spansBackRow.holds Try.pinned (OpenSpec.ofChange spansBackWrong)

/-- 'footplatelaw11.SpansCount': WHATEVER THE INPUT: true; the input reads as it did. -/
def spansCountSpec : ChangeSpec := { name := "spansCount", fn := fun _ => fun
  | [d1, d2] => { results := [.lit (.bool true)], args := [d1, d2] }
  | _ => none }
def spansCountRow : OpenClaim := { program := "ytcioiiobjfblbaa", sum := "15d795f3738b2891770fa4a297b76d6cb85c72a16961a7cc7dae456bf8013a69", func := "footplate/footplatelaw11.SpansCount", spec := "spansCount", unfollowed := true, recurses := true, apart := false }
def SpansCountSaid : Prop := spansCountRow.holds Try.pinned (OpenSpec.ofChange spansCountSpec)

/-- ITS FALSE NEIGHBOUR: 'it returns false'. Refute it at one input. -/
def spansCountWrong : ChangeSpec := { name := "spansCount", fn := fun _ => fun
  | [d1, d2] => { results := [.lit (.bool false)], args := [d1, d2] }
  | _ => none }
def SpansCountWrongFalsely : Prop := spansCountRow.holds Try.pinned (OpenSpec.ofChange spansCountWrong)

/-- 'footplatelaw13.SlotsRuns': WHATEVER THE INPUT: true; the input reads as it did. -/
def slotsRunsSpec : ChangeSpec := { name := "slotsRuns", fn := fun _ => fun
  | [d1, d2] => { results := [.lit (.bool true)], args := [d1, d2] }
  | _ => none }
def slotsRunsRow : OpenClaim := { program := "ytcioiiobjfblbaa", sum := "15d795f3738b2891770fa4a297b76d6cb85c72a16961a7cc7dae456bf8013a69", func := "footplate/footplatelaw13.SlotsRuns", spec := "slotsRuns", unfollowed := true, recurses := true, apart := false }
def SlotsRunsSaid : Prop := slotsRunsRow.holds Try.pinned (OpenSpec.ofChange slotsRunsSpec)

/-- ITS FALSE NEIGHBOUR: 'it returns false'. Refute it at one input. -/
def slotsRunsWrong : ChangeSpec := { name := "slotsRuns", fn := fun _ => fun
  | [d1, d2] => { results := [.lit (.bool false)], args := [d1, d2] }
  | _ => none }
def SlotsRunsWrongFalsely : Prop := slotsRunsRow.holds Try.pinned (OpenSpec.ofChange slotsRunsWrong)

/-- 'footplatelaw13.SlotsFound': WHATEVER THE INPUT: true; the input reads as it did. -/
def slotsFoundSpec : ChangeSpec := { name := "slotsFound", fn := fun _ => fun
  | [d1, d2, d3] => { results := [.lit (.bool true)], args := [d1, d2, d3] }
  | _ => none }
def slotsFoundRow : OpenClaim := { program := "ytcioiiobjfblbaa", sum := "15d795f3738b2891770fa4a297b76d6cb85c72a16961a7cc7dae456bf8013a69", func := "footplate/footplatelaw13.SlotsFound", spec := "slotsFound", unfollowed := true, recurses := true, apart := false }
def SlotsFoundSaid : Prop := slotsFoundRow.holds Try.pinned (OpenSpec.ofChange slotsFoundSpec)

/-- ITS FALSE NEIGHBOUR: 'it returns false'. Refute it at one input. -/
def slotsFoundWrong : ChangeSpec := { name := "slotsFound", fn := fun _ => fun
  | [d1, d2, d3] => { results := [.lit (.bool false)], args := [d1, d2, d3] }
  | _ => none }
def SlotsFoundWrongFalsely : Prop := slotsFoundRow.holds Try.pinned (OpenSpec.ofChange slotsFoundWrong)

/-- 'footplatelaw13.SlotsOrder': WHATEVER THE INPUT: true; the input reads as it did. -/
def slotsOrderSpec : ChangeSpec := { name := "slotsOrder", fn := fun _ => fun
  | [d1, d2] => { results := [.lit (.bool true)], args := [d1, d2] }
  | _ => none }
def slotsOrderRow : OpenClaim := { program := "ytcioiiobjfblbaa", sum := "15d795f3738b2891770fa4a297b76d6cb85c72a16961a7cc7dae456bf8013a69", func := "footplate/footplatelaw13.SlotsOrder", spec := "slotsOrder", unfollowed := true, recurses := true, apart := false }
def SlotsOrderSaid : Prop := slotsOrderRow.holds Try.pinned (OpenSpec.ofChange slotsOrderSpec)

/-- ITS FALSE NEIGHBOUR: 'it returns false'. Refute it at one input. -/
def slotsOrderWrong : ChangeSpec := { name := "slotsOrder", fn := fun _ => fun
  | [d1, d2] => { results := [.lit (.bool false)], args := [d1, d2] }
  | _ => none }
def SlotsOrderWrongFalsely : Prop := slotsOrderRow.holds Try.pinned (OpenSpec.ofChange slotsOrderWrong)

/- THE SECOND FORM. 'bulk': how many values and letters a reading holds, each counted each time it is reached (what is shared counts as often as it is met; a slice's spare places count too). A statement '..UptoSaid' is the law's where the arguments, and the package variables that the reading takes, are together of bulk at most 1048576: NARROWER than '..Said'. Prove '..Said' where nothing that the law and all that it calls make is longer than what came in: it says more and counts as full. Else prove '..UptoSaid'. A law counts once. -/
mutual
def uptoBulk {H : Type} : DataW H → Nat
  | .lit (.string bytes) => bytes.length + 1
  | .lit _ => 1
  | .nil => 1
  | .ptr d => uptoBulk d + 1
  | .slice elems spare => uptoBulkAll elems + uptoBulkAll spare + 1
  | .agg parts => uptoBulkAll parts + 1
  | .iface _ d => uptoBulk d + 1
  | .map entries => uptoBulkEntries entries + 1
  | .held _ => 1
def uptoBulkAll {H : Type} : List (DataW H) → Nat
  | [] => 0
  | d :: r => uptoBulk d + uptoBulkAll r
def uptoBulkEntries {H : Type} : List (Lit × DataW H) → Nat
  | [] => 0
  | x :: r => uptoBulkEntry x + uptoBulkEntries r
def uptoBulkEntry {H : Type} : Lit × DataW H → Nat
  | (.string bytes, d) => bytes.length + uptoBulk d + 1
  | (_, d) => uptoBulk d + 1
 end
def uptoSmall : (H : Type) → List (DataW H) → Bool := fun _ ds => decide (uptoBulkAll ds ≤ 1048576)
def OpenSpec.upto (s : _root_.Go.ChangeSpec) : _root_.Go.OpenSpec := { _root_.Go.OpenSpec.ofChange s with cond := some uptoSmall }

/-- 'footplatelaw11.SpansNorm', WHERE WHAT IT READS IS OF BULK AT MOST 1048576: true; the input reads as it did. -/
def spansNormUptoRow : OpenClaim := { program := "ytcioiiobjfblbaa", sum := "15d795f3738b2891770fa4a297b76d6cb85c72a16961a7cc7dae456bf8013a69", func := "footplate/footplatelaw11.SpansNorm", spec := "spansNorm", unfollowed := true, recurses := true, apart := false, narrowed := true }
def SpansNormUptoSaid : Prop := spansNormUptoRow.holds Try.pinned (OpenSpec.upto spansNormSpec)

/-- 'footplatelaw11.SpansTell', WHERE WHAT IT READS IS OF BULK AT MOST 1048576: true; the input reads as it did. -/
def spansTellUptoRow : OpenClaim := { program := "ytcioiiobjfblbaa", sum := "15d795f3738b2891770fa4a297b76d6cb85c72a16961a7cc7dae456bf8013a69", func := "footplate/footplatelaw11.SpansTell", spec := "spansTell", unfollowed := true, recurses := true, apart := false, narrowed := true }
def SpansTellUptoSaid : Prop := spansTellUptoRow.holds Try.pinned (OpenSpec.upto spansTellSpec)

/-- 'footplatelaw11.SpansLabels', WHERE WHAT IT READS IS OF BULK AT MOST 1048576: true; the input reads as it did. -/
def spansLabelsUptoRow : OpenClaim := { program := "ytcioiiobjfblbaa", sum := "15d795f3738b2891770fa4a297b76d6cb85c72a16961a7cc7dae456bf8013a69", func := "footplate/footplatelaw11.SpansLabels", spec := "spansLabels", unfollowed := true, recurses := true, apart := false, narrowed := true }
def SpansLabelsUptoSaid : Prop := spansLabelsUptoRow.holds Try.pinned (OpenSpec.upto spansLabelsSpec)

/-- 'footplatelaw11.SpansBack', WHERE WHAT IT READS IS OF BULK AT MOST 1048576: true; the input reads as it did. -/
def spansBackUptoRow : OpenClaim := { program := "ytcioiiobjfblbaa", sum := "15d795f3738b2891770fa4a297b76d6cb85c72a16961a7cc7dae456bf8013a69", func := "footplate/footplatelaw11.SpansBack", spec := "spansBack", unfollowed := true, recurses := true, apart := false, narrowed := true }
def SpansBackUptoSaid : Prop := spansBackUptoRow.holds Try.pinned (OpenSpec.upto spansBackSpec)

/-- 'footplatelaw11.SpansCount', WHERE WHAT IT READS IS OF BULK AT MOST 1048576: true; the input reads as it did. -/
def spansCountUptoRow : OpenClaim := { program := "ytcioiiobjfblbaa", sum := "15d795f3738b2891770fa4a297b76d6cb85c72a16961a7cc7dae456bf8013a69", func := "footplate/footplatelaw11.SpansCount", spec := "spansCount", unfollowed := true, recurses := true, apart := false, narrowed := true }
def SpansCountUptoSaid : Prop := spansCountUptoRow.holds Try.pinned (OpenSpec.upto spansCountSpec)

/-- 'footplatelaw13.SlotsRuns', WHERE WHAT IT READS IS OF BULK AT MOST 1048576: true; the input reads as it did. -/
def slotsRunsUptoRow : OpenClaim := { program := "ytcioiiobjfblbaa", sum := "15d795f3738b2891770fa4a297b76d6cb85c72a16961a7cc7dae456bf8013a69", func := "footplate/footplatelaw13.SlotsRuns", spec := "slotsRuns", unfollowed := true, recurses := true, apart := false, narrowed := true }
def SlotsRunsUptoSaid : Prop := slotsRunsUptoRow.holds Try.pinned (OpenSpec.upto slotsRunsSpec)

/-- 'footplatelaw13.SlotsFound', WHERE WHAT IT READS IS OF BULK AT MOST 1048576: true; the input reads as it did. -/
def slotsFoundUptoRow : OpenClaim := { program := "ytcioiiobjfblbaa", sum := "15d795f3738b2891770fa4a297b76d6cb85c72a16961a7cc7dae456bf8013a69", func := "footplate/footplatelaw13.SlotsFound", spec := "slotsFound", unfollowed := true, recurses := true, apart := false, narrowed := true }
def SlotsFoundUptoSaid : Prop := slotsFoundUptoRow.holds Try.pinned (OpenSpec.upto slotsFoundSpec)

/-- 'footplatelaw13.SlotsOrder', WHERE WHAT IT READS IS OF BULK AT MOST 1048576: true; the input reads as it did. -/
def slotsOrderUptoRow : OpenClaim := { program := "ytcioiiobjfblbaa", sum := "15d795f3738b2891770fa4a297b76d6cb85c72a16961a7cc7dae456bf8013a69", func := "footplate/footplatelaw13.SlotsOrder", spec := "slotsOrder", unfollowed := true, recurses := true, apart := false, narrowed := true }
def SlotsOrderUptoSaid : Prop := slotsOrderUptoRow.holds Try.pinned (OpenSpec.upto slotsOrderSpec)

end Rows
end Go.Proofs.Ytcioiiobjfblbaa
