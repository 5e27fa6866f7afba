/- Contracts of class: Len, First. -/
import Derived.Test.YtkpdnpcmeadggaaC4
namespace Go.Proofs.Ytkpdnpcmeadggaa
open Go Go.E
set_option linter.unusedVariables false
set_option maxRecDepth 10000
def SetD.len (s : SetD) : Nat := pc 64 s.a + pc 64 s.b + pc 64 s.c + pc 64 s.d
def SetD.lenTo (s : SetD) : Nat → Nat
  | 0 => 0
  | k + 1 => s.lenTo k + pc 64 (s.w k)
theorem SetD.lenTo_four (s : SetD) : s.lenTo 4 = s.len := by simp [SetD.lenTo, SetD.len, SetD.w]
section
variable {ro : Ro} {own r : Chs} {K : Value → Ro → Chs → Prop} {g : Chunk → Chs}
theorem nandN (x y : Nat) : nand2 (x : Int) (y : Int) = ((x &&& y : Nat) : Int) := rfl
end
end Go.Proofs.Ytkpdnpcmeadggaa
