/- A slice of one's own is told shorter. No program in sight. -/
import Derived.Test.YtknfebfdehdapaaDoorV25
namespace Go.E
open Go
set_option linter.unusedVariables false
section
variable {P : Program} {T : TT} {ty : TypeId} {env : Env} {ro : Ro} {own : Chs} {K : Value → Ro → Chs → Prop}
theorem Chunk.holds.shrink {ro : Ro} {a : Option Addr} {n m c s : Nat} {t : TypeId} {cs : List Value} (h : (Chunk.sl a n c t s cs).holds ro) (hm : m ≤ n) : (Chunk.sl a m c t s (cs.take (m * s))).holds ro := by
  obtain ⟨h1, h2, h3, h4⟩ := h
  have hms := Nat.mul_le_mul_right s hm
  refine ⟨by rw [List.length_take]; omega, by omega, h3, ?_⟩
  rcases h4 with ⟨h5, h6, h7⟩ | ⟨b, sp, rfl, h5, h6⟩
  · exact .inl ⟨h5, by omega, h7⟩
  · refine .inr ⟨b, cs.drop (m * s) ++ sp, rfl, ?_, ?_⟩
    · rw [← List.append_assoc, List.take_append_drop]; exact h5
    · rw [List.length_append, List.length_take, List.length_drop]; omega
theorem Sat.shrink {ro : Ro} {own : Chs} {h : Heap} {a : Option Addr} {n m c s : Nat} {t : TypeId} {cs : List Value} {f : Chunk → Chs} [hb : HasSl own a n c t s cs f] (hm : m ≤ n) (hs : Sat ro own h) : Sat ro (f (.sl a m c t s (cs.take (m * s)))) h := by
  obtain ⟨r, p1, p2⟩ := hb.split
  refine Sat.perm ?_ (p2 _)
  have hs := hs.perm p1
  refine hs.put (fun b _ _ => rfl) (hs.cons.1.shrink hm) (fun b hb => .inl ?_) ?_
  · cases a <;> exact hb
  · cases a <;> simp [Chunk.fp]
theorem QOk.eqlStruct [hT : TTab P T] {K : Value → Prop} {t yt : TypeId} {x y : Operand} {xs ys : List Value} {fs : List (TypeId × Nat × Nat)} {z1 : Nat} {z2 : List Value} {q : Bool} (hx : ev env x = some (.agg xs.toArray)) (hy : ev env y = some (.agg ys.toArray)) (ht : T.get t = some ⟨.struct fs, z1, z2⟩) (hq : eqFs T xs ys fs = some q)
    (h1 : P.stoodInHeld t = false) (h2 : P.eqGuardType P.depth t = false) (h3 : ((P.fieldsOf t).toList.all fun f => f.name != "_") = true) (hk : K (.bool q)) : QOk P (.binOp .eql t x y yt) ty env ro own K := by
  obtain ⟨l, e1, e2, _⟩ := hT.ok.struct ht
  have e3 : P.fieldsOf t = l.toArray := by simp [Program.fieldsOf, e1]
  rw [e3] at h3
  subst e2
  refine QOk.pu (fun h hs d pos af g => .mk fun ρ w hρ _ => ?_) hk
  have h4 := eqFs_spec (P := P) (T := T) (xs := xs) (ys := ys) 9998 w l q (fun f hf => by have := List.all_eq_true.1 h3 f (by simpa using hf); simpa using this) hq
  simp only [execOp, hρ _ _ hx, hρ _ _ hy, Sem.run_bind, run_eqGuard_agg w .eql t x y _ _ h2, Result.andThen_ok, run_eql_struct, run_equalIn_agg w 9999 t _ _ (by rw [e3]; exact e1) h1, e3, h4, Sem.run_pure]
theorem OpOk.shrink {op : Op} {a : Option Addr} {n m c s : Nat} {t : TypeId} {cs : List Value} {f : Chunk → Chs} [hb : HasSl own a n c t s cs f] (hm : m ≤ n) (h : OpOk P op ty env ro (f (.sl a m c t s (cs.take (m * s)))) K) : OpOk P op ty env ro own K :=
  ⟨fun g hg => h.run g (hg.shrink hm)⟩
theorem CallOk.shrink {q : FuncId} {args : Array Value} {a : Option Addr} {n m c s : Nat} {t : TypeId} {cs : List Value} {f : Chunk → Chs} [hb : HasSl own a n c t s cs f] (hm : m ≤ n) (h : CallOk P q args ro (f (.sl a m c t s (cs.take (m * s)))) K) : CallOk P q args ro own K :=
  h.post (fun _ h => h.shrink hm) (fun v ro' own' h' hl hs hK => ⟨ro', own', hl, hs, hK⟩)
end
end Go.E
