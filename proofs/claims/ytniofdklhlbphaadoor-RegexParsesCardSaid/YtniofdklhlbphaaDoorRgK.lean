/- Contracts of the statements of regex: wrong. -/
import Derived.Test.YtniofdklhlbphaaDoorRgA
namespace Go.Proofs.YtniofdklhlbphaaDoor
open Go Go.E
set_option linter.unusedVariables false
set_option linter.unusedSimpArgs false
set_option maxRecDepth 10000
end Go.Proofs.YtniofdklhlbphaaDoor
