/- A contract of this engine as one of the kit's; what a round over a function keeps. No program in sight. -/
import Derived.Test.YtknfebfdehdapaaDoorCB
import Derived.Test.YtknfebfdehdapaaDoorV11
import Derived.RangeFuncNested
import Derived.RangeFuncBound
import Derived.RangeFuncCalls
import Derived.RangeFuncLeaves
namespace Go.E
open Go Go.RowKit
set_option linter.unusedVariables false
theorem CallOk.callsV {P : Program} {f : FuncId} {args : Array Value} {v0 : Value} (he : ∀ args w, (callFunc f args).run P w = .ok (.enter f args) w) (hc : ∀ h, CallOk P f args (hm h) [] (fun v _ _ => v = v0)) (w : World) :
    Calls P f args w fun e w' => e = .returned v0 ∧ Below w.heap.size w w' := by
  rcases (hc w.heap).run w (sat_all _) with ⟨_, hcalls⟩ | ⟨v, w', h1, _⟩
  · exact hcalls.mono fun e w' ⟨v, hev, hh, ro', own', hl, hs, hv⟩ => by subst hv; exact ⟨hev, below_of hh (Ext.ofSat hl hs)⟩
  · rw [he] at h1; cases h1
/-- The rows of one type stay as they are. -/
def KeepsT (t : TypeId) (W W' : World) : Prop := ∀ (b : Nat) (cs : Array Value) (fr : Nat × Nat), W.heap[b]? = some (.cells cs t fr) → W'.heap[b]? = some (.cells cs t fr)
theorem KeepsT.trans {t : TypeId} {A B C : World} (h : KeepsT t A B) (k : KeepsT t B C) : KeepsT t A C := fun b cs fr hb => k b cs fr (h b cs fr hb)
theorem KeepsT.refl (t : TypeId) (A : World) : KeepsT t A A := fun b cs fr hb => hb
theorem KeepsT.putObj {t : TypeId} {W : World} {l : Nat} {o o' : Obj} (hl : W.heap[l]? = some o) (ho : o.isCells = false) : KeepsT t W (W.putObj l o') := fun b cs fr hb => by
  have hne : b ≠ l := fun e => by
    subst e
    rw [hl] at hb
    cases Option.some.inj hb
    cases ho
  rw [World.putObj_heap_other hne]
  exact hb
end Go.E
