/- The laws of layer 1: Gets, Texts, Numbers. -/
import Derived.Test.YtjbolphfelakeaaGreatDoorOctetLaw
namespace Go.Proofs.YtjbolphfelakeaaGreatDoor
set_option linter.unusedVariables false
set_option linter.unusedSimpArgs false
open Go.RowKit Go.Shelf Go.Proofs Go.OctetPlain

theorem str_conv {w : World} {v : Value} {l : List UInt8} (h : SlR w 1 encB v l) : (convert 43 9 v).run Tryz.prog w = .ok (.string (str l)) w :=
  h.str Tryz.underlying43 Tryz.underlying5 Tryz.underlying9

end Go.Proofs.YtjbolphfelakeaaGreatDoor
