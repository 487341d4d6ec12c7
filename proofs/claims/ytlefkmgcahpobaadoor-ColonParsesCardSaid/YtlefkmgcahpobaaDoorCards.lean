/-
  DERIVED. GIVEN WITH THE SEED: THE CARDS: each row of YtlefkmgcahpobaaDoorRows.lean that lists a variable, with what it lists TIED to the program's text (the seventh form; the later family's looks); each row that meets fmt, with fmt's text TOLD by the authors' own Lean function (tested against real Go, not proved from fmt's source: count such statements apart). THE CARD IS WHAT COUNTS. Prove the row's statement (the work); the ties are given (YtlefkmgcahpobaaDoorTie.lean); close each card by the builder's one call (the guide's Derived/Test/ToyasCard.lean, 'card_holds'). Laid BY PROGRAM, IN A SANDBOX (cutbox-door.mjs). By AI agents, Wed Nov 11 2026. No macro, syntax, notation, axiom, sorry.
-/
import Derived.Test.YtlefkmgcahpobaaDoorRows
import GoSem.ClaimSeven
namespace Go.Proofs.YtlefkmgcahpobaaDoor
namespace Rows

/-- THE TIED CARD OF 'footplatelaw01.OctetGets'. -/
def octetGetsCard : Claim7 := { stood := { row := octetGetsRow, standIns := [], harness := (true, "712ea9591f0ef38ca214dc7646283e663fad71180b3b907acfc2057f68144099"), looks := true }, kinds := [], alts := [], laidByText := true, laidKinds := [.data, .data, .data, .sentinel, .sentinel], laidTests := true, laidLooks := .later }
def OctetGetsCardSaid : Prop := Claim7.holds Tryd.pinned (.plain (OpenSpec.ofChange octetGetsSpec)) octetGetsCard

/-- THE TIED CARD OF 'footplatelaw01.OctetPuts'. -/
def octetPutsCard : Claim7 := { stood := { row := octetPutsRow, standIns := [], harness := (true, "712ea9591f0ef38ca214dc7646283e663fad71180b3b907acfc2057f68144099"), looks := true }, kinds := [], alts := [], laidByText := true, laidKinds := [.data, .data, .data, .sentinel, .sentinel], laidTests := true, laidLooks := .later }
def OctetPutsCardSaid : Prop := Claim7.holds Tryd.pinned (.plain (OpenSpec.ofChange octetPutsSpec)) octetPutsCard

/-- THE TIED CARD OF 'footplatelaw01.OctetTexts'. -/
def octetTextsCard : Claim7 := { stood := { row := octetTextsRow, standIns := [], harness := (true, "712ea9591f0ef38ca214dc7646283e663fad71180b3b907acfc2057f68144099"), looks := true }, kinds := [], alts := [], laidByText := true, laidKinds := [.data, .data, .data, .sentinel, .sentinel], laidTests := true, laidLooks := .later }
def OctetTextsCardSaid : Prop := Claim7.holds Tryd.pinned (.plain (OpenSpec.ofChange octetTextsSpec)) octetTextsCard

/-- THE TIED CARD OF 'footplatelaw01.OctetNumbers'. -/
def octetNumbersCard : Claim7 := { stood := { row := octetNumbersRow, standIns := [], harness := (true, "712ea9591f0ef38ca214dc7646283e663fad71180b3b907acfc2057f68144099"), looks := true }, kinds := [], alts := [], laidByText := true, laidKinds := [.data, .data, .data, .sentinel, .sentinel], laidTests := true, laidLooks := .later }
def OctetNumbersCardSaid : Prop := Claim7.holds Tryd.pinned (.plain (OpenSpec.ofChange octetNumbersSpec)) octetNumbersCard

/-- THE TIED CARD OF 'footplatelaw01.OctetBack'. -/
def octetBackCard : Claim7 := { stood := { row := octetBackRow, standIns := [], harness := (true, "712ea9591f0ef38ca214dc7646283e663fad71180b3b907acfc2057f68144099"), looks := true }, kinds := [], alts := [], laidByText := true, laidKinds := [.data, .data, .data, .sentinel, .sentinel], laidTests := true, laidLooks := .later }
def OctetBackCardSaid : Prop := Claim7.holds Tryd.pinned (.plain (OpenSpec.ofChange octetBackSpec)) octetBackCard

/-- THE TIED CARD OF 'footplatelaw01.OctetCuts'. -/
def octetCutsCard : Claim7 := { stood := { row := octetCutsRow, standIns := [], harness := (true, "712ea9591f0ef38ca214dc7646283e663fad71180b3b907acfc2057f68144099"), looks := true }, kinds := [], alts := [], laidByText := true, laidKinds := [.data, .data, .data, .sentinel, .sentinel], laidTests := true, laidLooks := .later }
def OctetCutsCardSaid : Prop := Claim7.holds Tryd.pinned (.plain (OpenSpec.ofChange octetCutsSpec)) octetCutsCard

/-- THE TIED CARD OF 'footplatelaw07.ColonTells'. -/
def colonTellsCard : Claim7 := { stood := { row := colonTellsRow, standIns := [], harness := (true, "712ea9591f0ef38ca214dc7646283e663fad71180b3b907acfc2057f68144099"), looks := true }, kinds := [], alts := [], laidByText := true, laidKinds := [.data, .data, .data, .data, .pinned], laidTests := true, laidLooks := .later }
def ColonTellsCardSaid : Prop := Claim7.holds Tryd.pinned (.plain (OpenSpec.ofChange colonTellsSpec)) colonTellsCard

/-- THE TIED CARD OF 'footplatelaw07.ColonParses'. -/
def colonParsesCard : Claim7 := { stood := { row := colonParsesRow, standIns := [], harness := (true, "712ea9591f0ef38ca214dc7646283e663fad71180b3b907acfc2057f68144099"), looks := true }, kinds := [], alts := [], laidByText := true, laidKinds := [.data, .data, .data, .data, .pinned], laidTests := true, laidLooks := .later }
def ColonParsesCardSaid : Prop := Claim7.holds Tryd.pinned (.plain (OpenSpec.ofChange colonParsesSpec)) colonParsesCard

/-- THE TIED CARD OF 'footplatelaw07.ColonOf'. -/
def colonOfCard : Claim7 := { stood := { row := colonOfRow, standIns := [], harness := (true, "712ea9591f0ef38ca214dc7646283e663fad71180b3b907acfc2057f68144099"), looks := true }, kinds := [], alts := [], laidByText := true, laidKinds := [.data, .data, .data, .data, .pinned], laidTests := true, laidLooks := .later }
def ColonOfCardSaid : Prop := Claim7.holds Tryd.pinned (.plain (OpenSpec.ofChange colonOfSpec)) colonOfCard

/-- THE TIED CARD OF 'footplatelaw07.ColonBack'. -/
def colonBackCard : Claim7 := { stood := { row := colonBackRow, standIns := [], harness := (true, "712ea9591f0ef38ca214dc7646283e663fad71180b3b907acfc2057f68144099"), looks := true }, kinds := [], alts := [], laidByText := true, laidKinds := [.data, .data, .data, .data, .pinned], laidTests := true, laidLooks := .later }
def ColonBackCardSaid : Prop := Claim7.holds Tryd.pinned (.plain (OpenSpec.ofChange colonBackSpec)) colonBackCard

/-- THE TIED CARD OF 'footplatelaw07.ColonLong'. -/
def colonLongCard : Claim7 := { stood := { row := colonLongRow, standIns := [], harness := (true, "712ea9591f0ef38ca214dc7646283e663fad71180b3b907acfc2057f68144099"), looks := true }, kinds := [], alts := [], laidByText := true, laidKinds := [.data, .data, .data, .data, .pinned], laidTests := true, laidLooks := .later }
def ColonLongCardSaid : Prop := Claim7.holds Tryd.pinned (.plain (OpenSpec.ofChange colonLongSpec)) colonLongCard

/-- THE SECOND FORM's CARD OF 'footplatelaw01.OctetGets'. -/
def octetGetsUptoCard : Claim7 := { stood := { row := octetGetsUptoRow, standIns := [], harness := (true, "712ea9591f0ef38ca214dc7646283e663fad71180b3b907acfc2057f68144099"), looks := true }, kinds := [], alts := [], laidByText := true, laidKinds := [.data, .data, .data, .sentinel, .sentinel], laidTests := true, laidLooks := .later }
def OctetGetsUptoCardSaid : Prop := Claim7.holds Tryd.pinned (.plain (OpenSpec.upto octetGetsSpec)) octetGetsUptoCard

/-- THE SECOND FORM's CARD OF 'footplatelaw01.OctetPuts'. -/
def octetPutsUptoCard : Claim7 := { stood := { row := octetPutsUptoRow, standIns := [], harness := (true, "712ea9591f0ef38ca214dc7646283e663fad71180b3b907acfc2057f68144099"), looks := true }, kinds := [], alts := [], laidByText := true, laidKinds := [.data, .data, .data, .sentinel, .sentinel], laidTests := true, laidLooks := .later }
def OctetPutsUptoCardSaid : Prop := Claim7.holds Tryd.pinned (.plain (OpenSpec.upto octetPutsSpec)) octetPutsUptoCard

/-- THE SECOND FORM's CARD OF 'footplatelaw01.OctetTexts'. -/
def octetTextsUptoCard : Claim7 := { stood := { row := octetTextsUptoRow, standIns := [], harness := (true, "712ea9591f0ef38ca214dc7646283e663fad71180b3b907acfc2057f68144099"), looks := true }, kinds := [], alts := [], laidByText := true, laidKinds := [.data, .data, .data, .sentinel, .sentinel], laidTests := true, laidLooks := .later }
def OctetTextsUptoCardSaid : Prop := Claim7.holds Tryd.pinned (.plain (OpenSpec.upto octetTextsSpec)) octetTextsUptoCard

/-- THE SECOND FORM's CARD OF 'footplatelaw01.OctetNumbers'. -/
def octetNumbersUptoCard : Claim7 := { stood := { row := octetNumbersUptoRow, standIns := [], harness := (true, "712ea9591f0ef38ca214dc7646283e663fad71180b3b907acfc2057f68144099"), looks := true }, kinds := [], alts := [], laidByText := true, laidKinds := [.data, .data, .data, .sentinel, .sentinel], laidTests := true, laidLooks := .later }
def OctetNumbersUptoCardSaid : Prop := Claim7.holds Tryd.pinned (.plain (OpenSpec.upto octetNumbersSpec)) octetNumbersUptoCard

/-- THE SECOND FORM's CARD OF 'footplatelaw01.OctetBack'. -/
def octetBackUptoCard : Claim7 := { stood := { row := octetBackUptoRow, standIns := [], harness := (true, "712ea9591f0ef38ca214dc7646283e663fad71180b3b907acfc2057f68144099"), looks := true }, kinds := [], alts := [], laidByText := true, laidKinds := [.data, .data, .data, .sentinel, .sentinel], laidTests := true, laidLooks := .later }
def OctetBackUptoCardSaid : Prop := Claim7.holds Tryd.pinned (.plain (OpenSpec.upto octetBackSpec)) octetBackUptoCard

/-- THE SECOND FORM's CARD OF 'footplatelaw01.OctetCuts'. -/
def octetCutsUptoCard : Claim7 := { stood := { row := octetCutsUptoRow, standIns := [], harness := (true, "712ea9591f0ef38ca214dc7646283e663fad71180b3b907acfc2057f68144099"), looks := true }, kinds := [], alts := [], laidByText := true, laidKinds := [.data, .data, .data, .sentinel, .sentinel], laidTests := true, laidLooks := .later }
def OctetCutsUptoCardSaid : Prop := Claim7.holds Tryd.pinned (.plain (OpenSpec.upto octetCutsSpec)) octetCutsUptoCard

/-- THE SECOND FORM's CARD OF 'footplatelaw07.ColonTells'. -/
def colonTellsUptoCard : Claim7 := { stood := { row := colonTellsUptoRow, standIns := [], harness := (true, "712ea9591f0ef38ca214dc7646283e663fad71180b3b907acfc2057f68144099"), looks := true }, kinds := [], alts := [], laidByText := true, laidKinds := [.data, .data, .data, .data, .pinned], laidTests := true, laidLooks := .later }
def ColonTellsUptoCardSaid : Prop := Claim7.holds Tryd.pinned (.plain (OpenSpec.upto colonTellsSpec)) colonTellsUptoCard

/-- THE SECOND FORM's CARD OF 'footplatelaw07.ColonParses'. -/
def colonParsesUptoCard : Claim7 := { stood := { row := colonParsesUptoRow, standIns := [], harness := (true, "712ea9591f0ef38ca214dc7646283e663fad71180b3b907acfc2057f68144099"), looks := true }, kinds := [], alts := [], laidByText := true, laidKinds := [.data, .data, .data, .data, .pinned], laidTests := true, laidLooks := .later }
def ColonParsesUptoCardSaid : Prop := Claim7.holds Tryd.pinned (.plain (OpenSpec.upto colonParsesSpec)) colonParsesUptoCard

/-- THE SECOND FORM's CARD OF 'footplatelaw07.ColonOf'. -/
def colonOfUptoCard : Claim7 := { stood := { row := colonOfUptoRow, standIns := [], harness := (true, "712ea9591f0ef38ca214dc7646283e663fad71180b3b907acfc2057f68144099"), looks := true }, kinds := [], alts := [], laidByText := true, laidKinds := [.data, .data, .data, .data, .pinned], laidTests := true, laidLooks := .later }
def ColonOfUptoCardSaid : Prop := Claim7.holds Tryd.pinned (.plain (OpenSpec.upto colonOfSpec)) colonOfUptoCard

/-- THE SECOND FORM's CARD OF 'footplatelaw07.ColonBack'. -/
def colonBackUptoCard : Claim7 := { stood := { row := colonBackUptoRow, standIns := [], harness := (true, "712ea9591f0ef38ca214dc7646283e663fad71180b3b907acfc2057f68144099"), looks := true }, kinds := [], alts := [], laidByText := true, laidKinds := [.data, .data, .data, .data, .pinned], laidTests := true, laidLooks := .later }
def ColonBackUptoCardSaid : Prop := Claim7.holds Tryd.pinned (.plain (OpenSpec.upto colonBackSpec)) colonBackUptoCard

/-- THE SECOND FORM's CARD OF 'footplatelaw07.ColonLong'. -/
def colonLongUptoCard : Claim7 := { stood := { row := colonLongUptoRow, standIns := [], harness := (true, "712ea9591f0ef38ca214dc7646283e663fad71180b3b907acfc2057f68144099"), looks := true }, kinds := [], alts := [], laidByText := true, laidKinds := [.data, .data, .data, .data, .pinned], laidTests := true, laidLooks := .later }
def ColonLongUptoCardSaid : Prop := Claim7.holds Tryd.pinned (.plain (OpenSpec.upto colonLongSpec)) colonLongUptoCard
end Rows
end Go.Proofs.YtlefkmgcahpobaaDoor
