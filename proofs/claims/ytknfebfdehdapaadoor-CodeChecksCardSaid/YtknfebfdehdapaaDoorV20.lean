/- A contract of the shelf as one of this engine: it leaves what was there as it was. No program in sight. -/
import Derived.Test.YtknfebfdehdapaaDoorCB
import Derived.Below
namespace Go.E
open Go
set_option linter.unusedVariables false
section
variable {P : Program} {f : FuncId} {ro : Ro} {own : Chs} {K : Value → Ro → Chs → Prop}
theorem CallOk.ofBelow {args : Array Value} {v : Value} (enter : ∀ args w, (callFunc f args).run P w = .ok (.enter f args) w) (h : ∀ w, Calls P f args w fun e w' => e = .returned v ∧ Go.RowKit.Below w.heap.size w w') (hk : K v ro own) : CallOk P f args ro own K :=
  CallOk.body enter fun h0 hs w hw => (h w).mono fun e w' ⟨he, hb⟩ => ⟨v, he, ⟨rfl, hb.os, hb.tape, hb.output⟩, ro, own, Le.refl _, hs.keep (fun b hb' => by subst hw; exact hb.block b hb'), hk⟩
end
end Go.E
