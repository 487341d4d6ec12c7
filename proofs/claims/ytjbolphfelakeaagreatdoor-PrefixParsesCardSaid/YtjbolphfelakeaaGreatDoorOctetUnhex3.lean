/- The document's Unhex. -/
import Derived.Test.YtjbolphfelakeaaGreatDoorOctetUnhex
import Derived.Test.YtjbolphfelakeaaGreatDoorOctetRef2
namespace Go.Proofs.YtjbolphfelakeaaGreatDoor
set_option linter.unusedVariables false
set_option linter.unusedSimpArgs false
open Go.RowKit Go.Shelf Go.Proofs Go.OctetPlain

end Go.Proofs.YtjbolphfelakeaaGreatDoor
