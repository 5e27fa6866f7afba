/- Contracts of strings.Builder. -/
import Derived.Test.YtkpdnpcmeadggaaDoorT
import Derived.Test.YtkpdnpcmeadggaaDoorEn2
namespace Go.Proofs.YtkpdnpcmeadggaaDoor
open Go Go.E
set_option linter.unusedVariables false
set_option maxRecDepth 10000
section
variable {ro : Ro} {own r : Chs} {K : Value → Ro → Chs → Prop} {g : Chunk → Chs}
/-- A builder with its bytes. -/
def BQ (b : Nat) (q : Option Addr) : Prop := q = none ∨ q = some ⟨b, 0, none⟩
end
end Go.Proofs.YtkpdnpcmeadggaaDoor
