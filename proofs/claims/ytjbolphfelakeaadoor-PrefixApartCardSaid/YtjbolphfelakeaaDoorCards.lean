/-
  DERIVED. GIVEN WITH THE SEED: THE CARDS: each row of YtjbolphfelakeaaDoorRows.lean that lists a variable, with what it lists TIED to the program's text (the seventh form; the later family's looks); each row that meets fmt, with fmt's text TOLD by the authors' own Lean function (tested against real Go, not proved from fmt's source: count such statements apart). THE CARD IS WHAT COUNTS. Prove the row's statement (the work); the ties are given (YtjbolphfelakeaaDoorTie.lean); close each card by the builder's one call (the guide's Derived/Test/ToyasCard.lean, 'card_holds'). Laid BY PROGRAM, IN A SANDBOX (cutbox-door.mjs). By AI agents, Wed Nov 11 2026. No macro, syntax, notation, axiom, sorry.
-/
import Derived.Test.YtjbolphfelakeaaDoorRows
import GoSem.ClaimSeven
namespace Go.Proofs.YtjbolphfelakeaaDoor
namespace Rows

/-- THE TIED CARD OF 'footplatelaw08.PrefixApart'. -/
def prefixApartCard : Claim7 := { stood := { row := prefixApartRow, standIns := [], harness := (true, "e97fb526d84fa7d89be67a06cfb862acdbed9c956e010469a68daa34caf5d415"), looks := true }, kinds := [], alts := [], laidByText := true, laidKinds := [.data, .data, .data, .data, .sentinel, .sentinel, .pinned], laidTests := true, laidLooks := .later }
def PrefixApartCardSaid : Prop := Claim7.holds Tryd.pinned (.plain (OpenSpec.ofChange prefixApartSpec)) prefixApartCard

/-- THE TIED CARD OF 'footplatelaw08.PrefixBack'. -/
def prefixBackCard : Claim7 := { stood := { row := prefixBackRow, standIns := [], harness := (true, "e97fb526d84fa7d89be67a06cfb862acdbed9c956e010469a68daa34caf5d415"), looks := true }, kinds := [], alts := [], laidByText := true, laidKinds := [.data, .data, .data, .data, .sentinel, .sentinel, .pinned], laidTests := true, laidLooks := .later }
def PrefixBackCardSaid : Prop := Claim7.holds Tryd.pinned (.plain (OpenSpec.ofChange prefixBackSpec)) prefixBackCard

/-- THE TIED CARD OF 'footplatelaw08.PrefixMasks'. -/
def prefixMasksCard : Claim7 := { stood := { row := prefixMasksRow, standIns := [], harness := (true, "e97fb526d84fa7d89be67a06cfb862acdbed9c956e010469a68daa34caf5d415"), looks := true }, kinds := [], alts := [], laidByText := true, laidKinds := [.data, .data, .data, .data, .sentinel, .sentinel, .pinned], laidTests := true, laidLooks := .later }
def PrefixMasksCardSaid : Prop := Claim7.holds Tryd.pinned (.plain (OpenSpec.ofChange prefixMasksSpec)) prefixMasksCard

/-- THE SECOND FORM's CARD OF 'footplatelaw08.PrefixApart'. -/
def prefixApartUptoCard : Claim7 := { stood := { row := prefixApartUptoRow, standIns := [], harness := (true, "e97fb526d84fa7d89be67a06cfb862acdbed9c956e010469a68daa34caf5d415"), looks := true }, kinds := [], alts := [], laidByText := true, laidKinds := [.data, .data, .data, .data, .sentinel, .sentinel, .pinned], laidTests := true, laidLooks := .later }
def PrefixApartUptoCardSaid : Prop := Claim7.holds Tryd.pinned (.plain (OpenSpec.upto prefixApartSpec)) prefixApartUptoCard

/-- THE SECOND FORM's CARD OF 'footplatelaw08.PrefixBack'. -/
def prefixBackUptoCard : Claim7 := { stood := { row := prefixBackUptoRow, standIns := [], harness := (true, "e97fb526d84fa7d89be67a06cfb862acdbed9c956e010469a68daa34caf5d415"), looks := true }, kinds := [], alts := [], laidByText := true, laidKinds := [.data, .data, .data, .data, .sentinel, .sentinel, .pinned], laidTests := true, laidLooks := .later }
def PrefixBackUptoCardSaid : Prop := Claim7.holds Tryd.pinned (.plain (OpenSpec.upto prefixBackSpec)) prefixBackUptoCard

/-- THE SECOND FORM's CARD OF 'footplatelaw08.PrefixMasks'. -/
def prefixMasksUptoCard : Claim7 := { stood := { row := prefixMasksUptoRow, standIns := [], harness := (true, "e97fb526d84fa7d89be67a06cfb862acdbed9c956e010469a68daa34caf5d415"), looks := true }, kinds := [], alts := [], laidByText := true, laidKinds := [.data, .data, .data, .data, .sentinel, .sentinel, .pinned], laidTests := true, laidLooks := .later }
def PrefixMasksUptoCardSaid : Prop := Claim7.holds Tryd.pinned (.plain (OpenSpec.upto prefixMasksSpec)) prefixMasksUptoCard
end Rows
end Go.Proofs.YtjbolphfelakeaaDoor
