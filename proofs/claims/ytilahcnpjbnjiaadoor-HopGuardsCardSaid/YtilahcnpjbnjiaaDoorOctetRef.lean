/- The document's there, Cut, Get, Bytes, Put. -/
import Derived.Test.YtilahcnpjbnjiaaDoorOctetFns3
namespace Go.Proofs.YtilahcnpjbnjiaaDoor
set_option linter.unusedVariables false
set_option linter.unusedSimpArgs false
open Go.RowKit Go.Shelf Go.Proofs Go.OctetPlain

end Go.Proofs.YtilahcnpjbnjiaaDoor
