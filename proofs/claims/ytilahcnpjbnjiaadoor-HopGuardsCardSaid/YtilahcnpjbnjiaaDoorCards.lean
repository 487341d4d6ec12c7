/-
  DERIVED. GIVEN WITH THE SEED: THE CARDS: each row of YtilahcnpjbnjiaaDoorRows.lean that lists a variable, with what it lists TIED to the program's text (the seventh form; the later family's looks); each row that meets fmt, with fmt's text TOLD by the authors' own Lean function (tested against real Go, not proved from fmt's source: count such statements apart). THE CARD IS WHAT COUNTS. Prove the row's statement (the work); the ties are given (YtilahcnpjbnjiaaDoorTie.lean); close each card by the builder's one call (the guide's Derived/Test/ToyasCard.lean, 'card_holds'). Laid BY PROGRAM, IN A SANDBOX (cutbox-door.mjs). By AI agents, Wed Nov 11 2026. No macro, syntax, notation, axiom, sorry.
-/
import Derived.Test.YtilahcnpjbnjiaaDoorRows
import GoSem.ClaimSeven
namespace Go.Proofs.YtilahcnpjbnjiaaDoor
namespace Rows

/-- THE TIED CARD OF 'footplatelaw15.HopTells'. -/
def hopTellsCard : Claim7 := { stood := { row := hopTellsRow, standIns := [], harness := (true, "d1a5285f62873c471613fc737913f1923e517b8c2ae0da291e7d04034d28e09d"), looks := true }, kinds := [], alts := [], laidByText := true, laidKinds := [.data, .data, .data, .data, .sentinel, .sentinel, .pinned], laidTests := true, laidLooks := .later }
def HopTellsCardSaid : Prop := Claim7.holds Tryd.pinned (.plain (OpenSpec.ofChange hopTellsSpec)) hopTellsCard

/-- THE TIED CARD OF 'footplatelaw15.HopParses'. -/
def hopParsesCard : Claim7 := { stood := { row := hopParsesRow, standIns := [], harness := (true, "d1a5285f62873c471613fc737913f1923e517b8c2ae0da291e7d04034d28e09d"), looks := true }, kinds := [], alts := [], laidByText := true, laidKinds := [.data, .data, .data, .data, .sentinel, .sentinel, .pinned], laidTests := true, laidLooks := .later }
def HopParsesCardSaid : Prop := Claim7.holds Tryd.pinned (.plain (OpenSpec.ofChange hopParsesSpec)) hopParsesCard

/-- THE TIED CARD OF 'footplatelaw15.HopBack'. -/
def hopBackCard : Claim7 := { stood := { row := hopBackRow, standIns := [], harness := (true, "d1a5285f62873c471613fc737913f1923e517b8c2ae0da291e7d04034d28e09d"), looks := true }, kinds := [], alts := [], laidByText := true, laidKinds := [.data, .data, .data, .data, .sentinel, .sentinel, .pinned], laidTests := true, laidLooks := .later }
def HopBackCardSaid : Prop := Claim7.holds Tryd.pinned (.plain (OpenSpec.ofChange hopBackSpec)) hopBackCard

/-- THE TIED CARD OF 'footplatelaw15.HopGuards'. -/
def hopGuardsCard : Claim7 := { stood := { row := hopGuardsRow, standIns := [], harness := (true, "d1a5285f62873c471613fc737913f1923e517b8c2ae0da291e7d04034d28e09d"), looks := true }, kinds := [], alts := [], laidByText := true, laidKinds := [.data, .data, .data, .data, .sentinel, .sentinel, .pinned], laidTests := true, laidLooks := .later }
def HopGuardsCardSaid : Prop := Claim7.holds Tryd.pinned (.plain (OpenSpec.ofChange hopGuardsSpec)) hopGuardsCard

/-- THE SECOND FORM's CARD OF 'footplatelaw15.HopTells'. -/
def hopTellsUptoCard : Claim7 := { stood := { row := hopTellsUptoRow, standIns := [], harness := (true, "d1a5285f62873c471613fc737913f1923e517b8c2ae0da291e7d04034d28e09d"), looks := true }, kinds := [], alts := [], laidByText := true, laidKinds := [.data, .data, .data, .data, .sentinel, .sentinel, .pinned], laidTests := true, laidLooks := .later }
def HopTellsUptoCardSaid : Prop := Claim7.holds Tryd.pinned (.plain (OpenSpec.upto hopTellsSpec)) hopTellsUptoCard

/-- THE SECOND FORM's CARD OF 'footplatelaw15.HopParses'. -/
def hopParsesUptoCard : Claim7 := { stood := { row := hopParsesUptoRow, standIns := [], harness := (true, "d1a5285f62873c471613fc737913f1923e517b8c2ae0da291e7d04034d28e09d"), looks := true }, kinds := [], alts := [], laidByText := true, laidKinds := [.data, .data, .data, .data, .sentinel, .sentinel, .pinned], laidTests := true, laidLooks := .later }
def HopParsesUptoCardSaid : Prop := Claim7.holds Tryd.pinned (.plain (OpenSpec.upto hopParsesSpec)) hopParsesUptoCard

/-- THE SECOND FORM's CARD OF 'footplatelaw15.HopBack'. -/
def hopBackUptoCard : Claim7 := { stood := { row := hopBackUptoRow, standIns := [], harness := (true, "d1a5285f62873c471613fc737913f1923e517b8c2ae0da291e7d04034d28e09d"), looks := true }, kinds := [], alts := [], laidByText := true, laidKinds := [.data, .data, .data, .data, .sentinel, .sentinel, .pinned], laidTests := true, laidLooks := .later }
def HopBackUptoCardSaid : Prop := Claim7.holds Tryd.pinned (.plain (OpenSpec.upto hopBackSpec)) hopBackUptoCard

/-- THE SECOND FORM's CARD OF 'footplatelaw15.HopGuards'. -/
def hopGuardsUptoCard : Claim7 := { stood := { row := hopGuardsUptoRow, standIns := [], harness := (true, "d1a5285f62873c471613fc737913f1923e517b8c2ae0da291e7d04034d28e09d"), looks := true }, kinds := [], alts := [], laidByText := true, laidKinds := [.data, .data, .data, .data, .sentinel, .sentinel, .pinned], laidTests := true, laidLooks := .later }
def HopGuardsUptoCardSaid : Prop := Claim7.holds Tryd.pinned (.plain (OpenSpec.upto hopGuardsSpec)) hopGuardsUptoCard
end Rows
end Go.Proofs.YtilahcnpjbnjiaaDoor
