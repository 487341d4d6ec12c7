/- The document's Unhex. -/
import Derived.Test.YtjbolphfelakeaaDoorOctetUnhex
import Derived.Test.YtjbolphfelakeaaDoorOctetRef2
namespace Go.Proofs.YtjbolphfelakeaaDoor
set_option linter.unusedVariables false
set_option linter.unusedSimpArgs false
open Go.RowKit Go.Shelf Go.Proofs Go.OctetPlain

end Go.Proofs.YtjbolphfelakeaaDoor
