/-
  DERIVED. GIVEN WITH THE SEED: THE CARDS: each row of YtilahcnpjbnjiaaGreatDoorRows.lean that lists a variable, with what it lists TIED to the program's text (the seventh form; the later family's looks); each row that meets fmt, with fmt's text TOLD by the authors' own Lean function (tested against real Go, not proved from fmt's source: count such statements apart). THE CARD IS WHAT COUNTS. Prove the row's statement (the work); the ties are given (YtilahcnpjbnjiaaGreatDoorTie.lean); close each card by the builder's one call (the guide's Derived/Test/ToyasCard.lean, 'card_holds'). Laid BY PROGRAM, IN A SANDBOX (cutbox-door.mjs). By AI agents, Wed Nov 11 2026. No macro, syntax, notation, axiom, sorry.
-/
import Derived.Test.YtilahcnpjbnjiaaGreatDoorRows
import GoSem.ClaimSeven
namespace Go.Proofs.YtilahcnpjbnjiaaGreatDoor
namespace Rows

/-- THE TIED CARD OF 'footplatelaw26.SegmentTexts'. -/
def segmentTextsCard : Claim7 := { stood := { row := segmentTextsRow, standIns := [], harness := (true, "38928393db030ece4665236ab43bf3bdda607afc6b7c06a4db352cf6bb366c7b"), looks := true }, kinds := [], alts := [], laidByText := true, laidKinds := [.data, .data, .data, .sentinel, .sentinel], laidTests := true, laidLooks := .later }
def SegmentTextsCardSaid : Prop := Claim7.holds Tryz.pinned (.plain (OpenSpec.ofChange segmentTextsSpec)) segmentTextsCard

/-- THE TIED CARD OF 'footplatelaw26.SegmentLabels'. -/
def segmentLabelsCard : Claim7 := { stood := { row := segmentLabelsRow, standIns := [], harness := (true, "38928393db030ece4665236ab43bf3bdda607afc6b7c06a4db352cf6bb366c7b"), looks := true }, kinds := [], alts := [], laidByText := true, laidKinds := [.data, .data, .data, .sentinel, .sentinel], laidTests := true, laidLooks := .later }
def SegmentLabelsCardSaid : Prop := Claim7.holds Tryz.pinned (.plain (OpenSpec.ofChange segmentLabelsSpec)) segmentLabelsCard

/-- THE TIED CARD OF 'footplatelaw26.SegmentBack'. -/
def segmentBackCard : Claim7 := { stood := { row := segmentBackRow, standIns := [], harness := (true, "38928393db030ece4665236ab43bf3bdda607afc6b7c06a4db352cf6bb366c7b"), looks := true }, kinds := [], alts := [], laidByText := true, laidKinds := [.data, .data, .data, .sentinel, .sentinel], laidTests := true, laidLooks := .later }
def SegmentBackCardSaid : Prop := Claim7.holds Tryz.pinned (.plain (OpenSpec.ofChange segmentBackSpec)) segmentBackCard

/-- THE TIED CARD OF 'footplatelaw26.SegmentShort'. -/
def segmentShortCard : Claim7 := { stood := { row := segmentShortRow, standIns := [], harness := (true, "38928393db030ece4665236ab43bf3bdda607afc6b7c06a4db352cf6bb366c7b"), looks := true }, kinds := [], alts := [], laidByText := true, laidKinds := [.data, .data, .data, .sentinel, .sentinel], laidTests := true, laidLooks := .later }
def SegmentShortCardSaid : Prop := Claim7.holds Tryz.pinned (.plain (OpenSpec.ofChange segmentShortSpec)) segmentShortCard

/-- THE SECOND FORM's CARD OF 'footplatelaw26.SegmentTexts'. -/
def segmentTextsUptoCard : Claim7 := { stood := { row := segmentTextsUptoRow, standIns := [], harness := (true, "38928393db030ece4665236ab43bf3bdda607afc6b7c06a4db352cf6bb366c7b"), looks := true }, kinds := [], alts := [], laidByText := true, laidKinds := [.data, .data, .data, .sentinel, .sentinel], laidTests := true, laidLooks := .later }
def SegmentTextsUptoCardSaid : Prop := Claim7.holds Tryz.pinned (.plain (OpenSpec.upto segmentTextsSpec)) segmentTextsUptoCard

/-- THE SECOND FORM's CARD OF 'footplatelaw26.SegmentLabels'. -/
def segmentLabelsUptoCard : Claim7 := { stood := { row := segmentLabelsUptoRow, standIns := [], harness := (true, "38928393db030ece4665236ab43bf3bdda607afc6b7c06a4db352cf6bb366c7b"), looks := true }, kinds := [], alts := [], laidByText := true, laidKinds := [.data, .data, .data, .sentinel, .sentinel], laidTests := true, laidLooks := .later }
def SegmentLabelsUptoCardSaid : Prop := Claim7.holds Tryz.pinned (.plain (OpenSpec.upto segmentLabelsSpec)) segmentLabelsUptoCard

/-- THE SECOND FORM's CARD OF 'footplatelaw26.SegmentBack'. -/
def segmentBackUptoCard : Claim7 := { stood := { row := segmentBackUptoRow, standIns := [], harness := (true, "38928393db030ece4665236ab43bf3bdda607afc6b7c06a4db352cf6bb366c7b"), looks := true }, kinds := [], alts := [], laidByText := true, laidKinds := [.data, .data, .data, .sentinel, .sentinel], laidTests := true, laidLooks := .later }
def SegmentBackUptoCardSaid : Prop := Claim7.holds Tryz.pinned (.plain (OpenSpec.upto segmentBackSpec)) segmentBackUptoCard

/-- THE SECOND FORM's CARD OF 'footplatelaw26.SegmentShort'. -/
def segmentShortUptoCard : Claim7 := { stood := { row := segmentShortUptoRow, standIns := [], harness := (true, "38928393db030ece4665236ab43bf3bdda607afc6b7c06a4db352cf6bb366c7b"), looks := true }, kinds := [], alts := [], laidByText := true, laidKinds := [.data, .data, .data, .sentinel, .sentinel], laidTests := true, laidLooks := .later }
def SegmentShortUptoCardSaid : Prop := Claim7.holds Tryz.pinned (.plain (OpenSpec.upto segmentShortSpec)) segmentShortUptoCard
end Rows
end Go.Proofs.YtilahcnpjbnjiaaGreatDoor
