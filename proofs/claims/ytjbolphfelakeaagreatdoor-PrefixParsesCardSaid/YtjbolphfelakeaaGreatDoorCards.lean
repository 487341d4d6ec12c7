/-
  DERIVED. GIVEN WITH THE SEED: THE CARDS: each row of YtjbolphfelakeaaGreatDoorRows.lean that lists a variable, with what it lists TIED to the program's text (the seventh form; the later family's looks); each row that meets fmt, with fmt's text TOLD by the authors' own Lean function (tested against real Go, not proved from fmt's source: count such statements apart). THE CARD IS WHAT COUNTS. Prove the row's statement (the work); the ties are given (YtjbolphfelakeaaGreatDoorTie.lean); close each card by the builder's one call (the guide's Derived/Test/ToyasCard.lean, 'card_holds'). Laid BY PROGRAM, IN A SANDBOX (cutbox-door.mjs). By AI agents, Wed Nov 11 2026. No macro, syntax, notation, axiom, sorry.
-/
import Derived.Test.YtjbolphfelakeaaGreatDoorRows
import GoSem.ClaimSeven
namespace Go.Proofs.YtjbolphfelakeaaGreatDoor
namespace Rows

/-- THE TIED CARD OF 'footplatelaw08.PrefixTells'. -/
def prefixTellsCard : Claim7 := { stood := { row := prefixTellsRow, standIns := [], harness := (true, "d261568ad3cedc07b4e0c3d311c5d84349e7d6c1a12cb5d160f4a66c86b94b7d"), looks := true }, kinds := [], alts := [], laidByText := true, laidKinds := [.data, .data, .data, .data, .sentinel, .sentinel, .pinned], laidTests := true, laidLooks := .later }
def PrefixTellsCardSaid : Prop := Claim7.holds Tryz.pinned (.plain (OpenSpec.ofChange prefixTellsSpec)) prefixTellsCard

/-- THE TIED CARD OF 'footplatelaw08.PrefixPairs'. -/
def prefixPairsCard : Claim7 := { stood := { row := prefixPairsRow, standIns := [], harness := (true, "d261568ad3cedc07b4e0c3d311c5d84349e7d6c1a12cb5d160f4a66c86b94b7d"), looks := true }, kinds := [], alts := [], laidByText := true, laidKinds := [.data, .data, .data, .data, .sentinel, .sentinel, .pinned], laidTests := true, laidLooks := .later }
def PrefixPairsCardSaid : Prop := Claim7.holds Tryz.pinned (.plain (OpenSpec.ofChange prefixPairsSpec)) prefixPairsCard

/-- THE TIED CARD OF 'footplatelaw08.PrefixParses'. -/
def prefixParsesCard : Claim7 := { stood := { row := prefixParsesRow, standIns := [], harness := (true, "d261568ad3cedc07b4e0c3d311c5d84349e7d6c1a12cb5d160f4a66c86b94b7d"), looks := true }, kinds := [], alts := [], laidByText := true, laidKinds := [.data, .data, .data, .data, .sentinel, .sentinel, .pinned], laidTests := true, laidLooks := .later }
def PrefixParsesCardSaid : Prop := Claim7.holds Tryz.pinned (.plain (OpenSpec.ofChange prefixParsesSpec)) prefixParsesCard

/-- THE SECOND FORM's CARD OF 'footplatelaw08.PrefixTells'. -/
def prefixTellsUptoCard : Claim7 := { stood := { row := prefixTellsUptoRow, standIns := [], harness := (true, "d261568ad3cedc07b4e0c3d311c5d84349e7d6c1a12cb5d160f4a66c86b94b7d"), looks := true }, kinds := [], alts := [], laidByText := true, laidKinds := [.data, .data, .data, .data, .sentinel, .sentinel, .pinned], laidTests := true, laidLooks := .later }
def PrefixTellsUptoCardSaid : Prop := Claim7.holds Tryz.pinned (.plain (OpenSpec.upto prefixTellsSpec)) prefixTellsUptoCard

/-- THE SECOND FORM's CARD OF 'footplatelaw08.PrefixPairs'. -/
def prefixPairsUptoCard : Claim7 := { stood := { row := prefixPairsUptoRow, standIns := [], harness := (true, "d261568ad3cedc07b4e0c3d311c5d84349e7d6c1a12cb5d160f4a66c86b94b7d"), looks := true }, kinds := [], alts := [], laidByText := true, laidKinds := [.data, .data, .data, .data, .sentinel, .sentinel, .pinned], laidTests := true, laidLooks := .later }
def PrefixPairsUptoCardSaid : Prop := Claim7.holds Tryz.pinned (.plain (OpenSpec.upto prefixPairsSpec)) prefixPairsUptoCard

/-- THE SECOND FORM's CARD OF 'footplatelaw08.PrefixParses'. -/
def prefixParsesUptoCard : Claim7 := { stood := { row := prefixParsesUptoRow, standIns := [], harness := (true, "d261568ad3cedc07b4e0c3d311c5d84349e7d6c1a12cb5d160f4a66c86b94b7d"), looks := true }, kinds := [], alts := [], laidByText := true, laidKinds := [.data, .data, .data, .data, .sentinel, .sentinel, .pinned], laidTests := true, laidLooks := .later }
def PrefixParsesUptoCardSaid : Prop := Claim7.holds Tryz.pinned (.plain (OpenSpec.upto prefixParsesSpec)) prefixParsesUptoCard
end Rows
end Go.Proofs.YtjbolphfelakeaaGreatDoor
