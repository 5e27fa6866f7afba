/- Contracts of strings.Builder. -/
import Derived.Test.YtkpdnpcmeadggaaT
import Derived.Test.YtkpdnpcmeadggaaEn2
namespace Go.Proofs.Ytkpdnpcmeadggaa
open Go Go.E
set_option linter.unusedVariables false
set_option maxRecDepth 10000
section
variable {ro : Ro} {own r : Chs} {K : Value → Ro → Chs → Prop} {g : Chunk → Chs}
/-- A builder with its bytes. -/
def BQ (b : Nat) (q : Option Addr) : Prop := q = none ∨ q = some ⟨b, 0, none⟩
end
end Go.Proofs.Ytkpdnpcmeadggaa
