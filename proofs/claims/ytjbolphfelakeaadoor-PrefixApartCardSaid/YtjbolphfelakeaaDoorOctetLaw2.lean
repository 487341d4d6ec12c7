/- The laws of layer 1: Gets, Texts, Numbers. -/
import Derived.Test.YtjbolphfelakeaaDoorOctetLaw
namespace Go.Proofs.YtjbolphfelakeaaDoor
set_option linter.unusedVariables false
set_option linter.unusedSimpArgs false
open Go.RowKit Go.Shelf Go.Proofs Go.OctetPlain

theorem str_conv {w : World} {v : Value} {l : List UInt8} (h : SlR w 1 encB v l) : (convert 51 9 v).run Tryd.prog w = .ok (.string (str l)) w :=
  h.str Tryd.underlying51 Tryd.underlying5 Tryd.underlying9

end Go.Proofs.YtjbolphfelakeaaDoor
