/- Room that nobody has cleared (a Builder grows); copying nothing. No program in sight. -/
import Derived.Test.YtknfebfdehdapaaDoorCB
import Derived.Lib.MakeNoZero
import Derived.Laws.CopyOwn
import Derived.RangeFuncRecord
import Derived.Below
namespace Go.E
open Go
set_option linter.unusedVariables false
set_option linter.unusedSimpArgs false
section
variable {P : Program} {f : FuncId} {fn : Func} {ro : Ro} {own : Chs} {K : Value → Ro → Chs → Prop}
theorem CallOk.makeNoZero {n : Nat} {t e : TypeId} {ps : Array TypeId} (hf : P.funcs[f]? = some fn) (hname : (fn.name == "runtime.NumGoroutine") = false) (hb : fn.body.isNone = true) (hn : Extern.findNext fn = none) (he : Extern.find fn = some (Extern.BytealgMakeNoZero.makeNoZero ps #[t]))
    (ht : P.underlying t = some (.slice e)) (hle : n ≤ 134217728) (hk : ∀ b c, n ≤ c → c ≤ maxLen → K (.slice (some ⟨b, 0, none⟩) n c) ro (.sl (some ⟨b, 0, none⟩) 0 c e 1 [] :: own)) : CallOk P f #[.int .i64 (n : Int)] ro own K :=
  ⟨fun w hs => by
    obtain ⟨cs, hrun, h1, h2⟩ := Lib.run_makeNoZero (P := P) w ps t e ht n (by omega)
    have hm := h2 (by unfold maxLen; omega)
    refine .inr ⟨_, w.drew.drew.alloc (.cells cs e), by rw [run_callFunc_extern hf hname hb hn he, hrun]; rfl, ⟨rfl, rfl, rfl, rfl⟩, ro, _, Le.refl _, ?_, hk w.heap.size cs.size h1 hm⟩
    have hnew : (w.drew.drew.alloc (.cells cs e)).heap[w.heap.size]? = some (.cells cs e (0, 0)) := by
      exact World.alloc_heap_new w.drew.drew (.cells cs e)
    refine hs.new (fun b hb => ?_) ⟨rfl, Nat.zero_le _, hm, .inr ⟨w.heap.size, cs.toList, rfl, ?_, by simp⟩⟩ (by simp [Chunk.fp]) (by simp [Chunk.fp])
    · have hb' : b ≠ w.heap.size := by omega
      exact Go.RowKit.Below.heap_alloc w.drew.drew (.cells cs e) b hb
    · show (w.drew.drew.alloc (.cells cs e)).heap[w.heap.size]? = some (.cells ([] ++ cs.toList).toArray e (0, 0))
      rw [hnew]; simp⟩
end
section
variable {P : Program} {T : TT} [hT : TTab P T] {ty : TypeId} {env : Env} {ro : Ro} {own : Chs} {K : Value → Ro → Chs → Prop}
theorem OpOk.copy0 {x y : Operand} {t t2 e : TypeId} {s z1 : Nat} {z2 : List Value} {dp sp : Option Addr} {dLen dCap sLen sCap : Nat} (hx : ev env x = some (.slice dp dLen dCap)) (hy : ev env y = some (.slice sp sLen sCap)) (hu : P.underlying t = some (.slice e)) (hsz : (P.info? e).map (·.size) = some 1) (hn : Nat.min sLen dLen = 0)
    (hk : K (.int .i64 0) ro own) : OpOk P (.call ⟨.builtin .copy, #[x, y], #[t, t2]⟩) ty env ro own K :=
  OpOk.pu (fun h hs d pos af g => .mk fun ρ w hρ hw => by
    have hr := run_copy_none (P := P) w t t2 ty e dp sp dLen dCap sLen sCap hu hsz hn
    simp only [execOp, resolve, invoke, builtin, Sem.run_bind, Sem.run_pure, Result.andThen_ok]
    simp [hρ _ _ hx, hρ _ _ hy, hr, Result.andThen]
    rfl) hk
theorem cutA_zero (a : Option Addr) (c s : Nat) : cutA a 0 c s = a := by
  unfold cutA
  split
  · rfl
  · cases a with
    | none => rfl
    | some a => simp [Addr.add]
end
end Go.E
