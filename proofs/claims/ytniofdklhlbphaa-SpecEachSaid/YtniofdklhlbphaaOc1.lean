/- Contracts of package octet, first part: a reader's. -/
import Derived.Test.YtniofdklhlbphaaT
namespace Go.Proofs.Ytniofdklhlbphaa
open Go Go.E
set_option linter.unusedVariables false
section
variable {ro : Ro} {own : Chs} {K : Value → Ro → Chs → Prop} {f : Chunk → Chs}
/-- A reader's cells. -/
abbrev rdr (a : Option Addr) (n c : Nat) (k : Int) : List Value := [.slice a n c, .int .i64 k]
end
end Go.Proofs.Ytniofdklhlbphaa
