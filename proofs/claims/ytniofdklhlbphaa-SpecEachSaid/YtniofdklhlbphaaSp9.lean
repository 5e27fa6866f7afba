/- Contracts of the laws of spec: what they reckon with. -/
import Derived.Test.YtniofdklhlbphaaSp8
namespace Go.Proofs.Ytniofdklhlbphaa
open Go Go.E
set_option linter.unusedVariables false
set_option maxRecDepth 10000
section
variable {ro : Ro} {own r : Chs} {K : Value → Ro → Chs → Prop} {g : Chunk → Chs}
end
end Go.Proofs.Ytniofdklhlbphaa
