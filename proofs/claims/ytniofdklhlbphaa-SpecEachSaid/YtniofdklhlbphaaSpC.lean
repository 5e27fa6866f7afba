/- The law SpecParts: its contract. -/
import Derived.Test.YtniofdklhlbphaaSpB
namespace Go.Proofs.Ytniofdklhlbphaa
open Go Go.E
set_option linter.unusedVariables false
set_option maxRecDepth 10000
section
variable {ro : Ro} {own r : Chs} {K : Value → Ro → Chs → Prop} {g : Chunk → Chs}
end
end Go.Proofs.Ytniofdklhlbphaa
