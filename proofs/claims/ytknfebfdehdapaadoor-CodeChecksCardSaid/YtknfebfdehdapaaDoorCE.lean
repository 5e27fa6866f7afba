/- Arrays of four numbers compared. No program in sight. -/
import Derived.Test.YtknfebfdehdapaaDoorMp
namespace Go.E
open Go
set_option linter.unusedVariables false
set_option linter.unusedSimpArgs false
section
variable {P : Program} {T : TT} [hT : TTab P T] {ty : TypeId} {env : Env} {ro : Ro} {own : Chs} {K : Value → Ro → Chs → Prop}
theorem run_equalIn_arr4 (w : World) (d : Nat) {t e : TypeId} {x0 x1 x2 x3 y0 y1 y2 y3 : Int} (ht : P.underlying t = some (.array 4 e)) (he : P.underlying e = some (.int .u64)) (hs : (P.info? e).map (·.size) = some 1) :
    (Op.equalIn (d + 2) t (.agg #[.int .u64 x0, .int .u64 x1, .int .u64 x2, .int .u64 x3]) (.agg #[.int .u64 y0, .int .u64 y1, .int .u64 y2, .int .u64 y3])).run P w = .ok (decide (x0 = y0 ∧ x1 = y1 ∧ x2 = y2 ∧ x3 = y3)) w := by
  have hagg : ∀ w, (isAgg e).run P w = .ok false w := fun w => by simp [isAgg, run_underlying he]
  have hi := fun a b (w : World) => run_equalIn_int (P := P) w d e .u64 .u64 a b he
  rw [Op.equalIn]
  simp [run_underlying ht, sizeOf_of hs, List.range', part, hagg, hi]
  by_cases h0 : x0 = y0 <;> by_cases h1 : x1 = y1 <;> by_cases h2 : x2 = y2 <;> by_cases h3 : x3 = y3 <;> simp [h0, h1, h2, h3]
theorem OpOk.eqlArr4 {t yt e : TypeId} {x y : Operand} {x0 x1 x2 x3 y0 y1 y2 y3 : Int} (hx : ev env x = some (.agg #[.int .u64 x0, .int .u64 x1, .int .u64 x2, .int .u64 x3])) (hy : ev env y = some (.agg #[.int .u64 y0, .int .u64 y1, .int .u64 y2, .int .u64 y3]))
    (ht : P.underlying t = some (.array 4 e)) (he : P.underlying e = some (.int .u64)) (hs : (P.info? e).map (·.size) = some 1) (h2 : P.eqGuardType P.depth t = false) (hk : K (.bool (decide (x0 = y0 ∧ x1 = y1 ∧ x2 = y2 ∧ x3 = y3))) ro own) : OpOk P (.binOp .eql t x y yt) ty env ro own K := by
  refine OpOk.pu (fun h hs' d pos af g => .mk fun ρ w hρ _ => ?_) hk
  simp only [execOp, hρ _ _ hx, hρ _ _ hy, Sem.run_bind, run_eqGuard_agg w .eql t x y _ _ h2, Result.andThen_ok, run_eql_struct, run_equalIn_arr4 w 9998 ht he hs, Sem.run_pure]
theorem OpOk.neqArr4 {t yt e : TypeId} {x y : Operand} {x0 x1 x2 x3 y0 y1 y2 y3 : Int} (hx : ev env x = some (.agg #[.int .u64 x0, .int .u64 x1, .int .u64 x2, .int .u64 x3])) (hy : ev env y = some (.agg #[.int .u64 y0, .int .u64 y1, .int .u64 y2, .int .u64 y3]))
    (ht : P.underlying t = some (.array 4 e)) (he : P.underlying e = some (.int .u64)) (hs : (P.info? e).map (·.size) = some 1) (h2 : P.eqGuardType P.depth t = false) (hk : K (.bool (!decide (x0 = y0 ∧ x1 = y1 ∧ x2 = y2 ∧ x3 = y3))) ro own) : OpOk P (.binOp .neq t x y yt) ty env ro own K := by
  refine OpOk.pu (fun h hs' d pos af g => .mk fun ρ w hρ _ => ?_) hk
  simp only [execOp, hρ _ _ hx, hρ _ _ hy, Sem.run_bind, run_eqGuard_agg w .neq t x y _ _ h2, Result.andThen_ok, run_neq_struct, run_equalIn_arr4 w 9998 ht he hs, Sem.run_pure]
theorem OpOk.buildK {t : TypeId} {ps : List (Nat × Operand)} {vs : List Value} (cs : List Value) (hv : evs env (ps.map (·.2)) = some vs) (hb : P.built t ((ps.map (·.1)).zip vs) = some cs.toArray) (hk : K (.agg cs.toArray) ro own) : OpOk P (.build t ps.toArray) ty env ro own K :=
  OpOk.pu (fun h hs d pos af g => Pu.build cs.toArray hv hb) hk
end
section
variable {P : Program} {T : TT} [hT : TTab P T] {ty : TypeId} {env : Env} {ro : Ro} {own : Chs}
/-- An array's element of one cell. -/
theorem pu_index1 {t e : TypeId} {x ix : Operand} {cs : List Value} {n k : Nat} {kk : IntKind} {i : Int} {v : Value} {du : TypeDesc} {d : Option Nat} {pos : String} {af : Array Edge} {g : Option (Nat × Bool)} {h : Heap} (hx : ev env x = some (.agg cs.toArray)) (hi : ev env ix = some (.int kk i)) (ht : P.underlying t = some (.array n e)) (he : P.underlying e = some du) (hr : du.isRow = false) (hs : (P.info? e).map (·.size) = some 1)
    (hk : i = (k : Int)) (hb : k < n) (hv : cs[k]? = some v) : Pu P ⟨d, .index t x ix, ty, pos, af, g⟩ env h v := .mk fun ρ w hρ _ => by
  subst hk
  have hagg : (isAgg e).run P w = .ok false w := by
    simp [isAgg, run_underlying he]
    cases du <;> simp [TypeDesc.isRow] at hr ⊢
  have hb' : (0 : Int) ≤ (k : Int) ∧ (k : Int) < (n : Int) := by omega
  simp [execOp, hρ _ _ hx, hρ _ _ hi, Instr.index, asIntOf, run_underlying ht, sizeOf_of hs, hb, part, hagg, hv]
theorem OpOk.index1 {K : Value → Ro → Chs → Prop} {t e : TypeId} {x ix : Operand} {cs : List Value} {n k : Nat} {kk : IntKind} {i : Int} {v : Value} {du : TypeDesc} (hx : ev env x = some (.agg cs.toArray)) (hi : ev env ix = some (.int kk i)) (ht : P.underlying t = some (.array n e)) (he : P.underlying e = some du) (hr : du.isRow = false) (hs : (P.info? e).map (·.size) = some 1)
    (hk' : i = (k : Int)) (hb : k < n) (hv : cs[k]? = some v) (hk : K v ro own) : OpOk P (.index t x ix) ty env ro own K :=
  OpOk.pu (fun h hs' d pos af g => pu_index1 hx hi ht he hr hs hk' hb hv) hk
/-- An array's element that is itself an array or a struct. -/
theorem OpOk.indexRow {K : Value → Ro → Chs → Prop} {t e : TypeId} {x ix : Operand} {cs vs : List Value} {n k z : Nat} {kk : IntKind} {i : Int} (hx : ev env x = some (.agg cs.toArray)) (hi : ev env ix = some (.int kk i)) (ht : P.underlying t = some (.array n e)) (he : (∃ fs, P.underlying e = some (.struct fs)) ∨ ∃ m u, P.underlying e = some (.array m u)) (hs : (P.info? e).map (·.size) = some z)
    (hk' : i = (k : Int)) (hb : k < n) (hv : (cs.drop (k * z)).take z = vs) (hk : K (.agg vs.toArray) ro own) : OpOk P (.index t x ix) ty env ro own K :=
  OpOk.pu (fun h hs' d pos af g => .mk fun ρ w hρ _ => by
    subst hk'; subst hv
    have hagg : (isAgg e).run P w = .ok true w := by
      rcases he with ⟨fs, he⟩ | ⟨m, u, he⟩ <;> simp [isAgg, run_underlying he]
    simp [execOp, hρ _ _ hx, hρ _ _ hi, Instr.index, asIntOf, run_underlying ht, sizeOf_of hs, hb, part, hagg]) hk
theorem QOk.index1 {K : Value → Prop} {t e : TypeId} {x ix : Operand} {cs : List Value} {n k : Nat} {kk : IntKind} {i : Int} {v : Value} {du : TypeDesc} (hx : ev env x = some (.agg cs.toArray)) (hi : ev env ix = some (.int kk i)) (ht : P.underlying t = some (.array n e)) (he : P.underlying e = some du) (hr : du.isRow = false) (hs : (P.info? e).map (·.size) = some 1)
    (hk' : i = (k : Int)) (hb : k < n) (hv : cs[k]? = some v) (hk : K v) : QOk P (.index t x ix) ty env ro own K :=
  QOk.pu (fun h hs' d pos af g => pu_index1 hx hi ht he hr hs hk' hb hv) hk
end
theorem not64 (n : Nat) (h : n < 18446744073709551616) : 18446744073709551615 ^^^ n = 18446744073709551615 - n := by
  apply Nat.eq_of_testBit_eq
  intro i
  rw [Nat.testBit_xor, show (18446744073709551615 : Nat) - n = 2 ^ 64 - (n + 1) by omega, Nat.testBit_two_pow_sub_succ (by simpa using h), show (18446744073709551615 : Nat) = 2 ^ 64 - 1 by rfl, Nat.testBit_two_pow_sub_one]
  by_cases hi : i < 64
  · simp [hi]
  · have : n.testBit i = false := Nat.testBit_lt_two_pow (Nat.lt_of_lt_of_le h (show 2 ^ 64 ≤ 2 ^ i from Nat.pow_le_pow_right (by decide) (by omega)))
    simp [hi, this]
section
variable {P : Program} {ty : TypeId} {env : Env} {ro : Ro} {own : Chs} {K : Value → Ro → Chs → Prop}
/-- All bits turned. -/
theorem OpOk.xor64 {t : TypeId} {x : Operand} {n : Nat} (hx : ev env x = some (.int .u64 (n : Int))) (h : n < 18446744073709551616) (hk : K (.int .u64 ((18446744073709551615 - n : Nat) : Int)) ro own) : OpOk P (.unOp .xor t x) ty env ro own K :=
  OpOk.pu (fun h' hs d pos af g => .mk fun ρ w hρ _ => by
    have := bits_xor (P := P) (k := .u64) (a := 18446744073709551615) (b := (n : Int)) ⟨by omega, by omega⟩ ⟨by omega, by omega⟩ w
    have e : nxor2 18446744073709551615 (n : Int) = ((18446744073709551615 - n : Nat) : Int) := by
      rw [← not64 n h]; rfl
    rw [e] at this
    have hm : (if IntKind.u64.signed = true then (-1 : Int) else IntKind.u64.max) = 18446744073709551615 := by rfl
    simp only [execOp, hρ _ _ hx, Op.unary, hm, Sem.run_bind, this]
    rfl) hk
/-- Turned round: how much is lacking to 2^64. -/
theorem OpOk.neg64 {t : TypeId} {x : Operand} {n : Nat} (hx : ev env x = some (.int .u64 (n : Int))) (hk : K (.int .u64 (((18446744073709551616 - n) % 18446744073709551616 : Nat) : Int)) ro own) (h : n < 18446744073709551616) : OpOk P (.unOp .neg t x) ty env ro own K :=
  OpOk.pu (fun h' hs d pos af g => .mk fun ρ w hρ _ => by
    have e : IntKind.u64.wrap (0 - (n : Int)) = (((18446744073709551616 - n) % 18446744073709551616 : Nat) : Int) := by
      simp only [IntKind.wrap, IntKind.bits, IntKind.signed]; simp; omega
    simp only [execOp, hρ _ _ hx, Op.unary, Op.intArith, e]; rfl) hk
end
section
variable {P : Program} {T : TT} [hT : TTab P T] {ty : TypeId} {env : Env} {ro : Ro} {own : Chs} {K : Value → Prop}
theorem QOk.eqlArr4 {t yt e : TypeId} {x y : Operand} {x0 x1 x2 x3 y0 y1 y2 y3 : Int} (hx : ev env x = some (.agg #[.int .u64 x0, .int .u64 x1, .int .u64 x2, .int .u64 x3])) (hy : ev env y = some (.agg #[.int .u64 y0, .int .u64 y1, .int .u64 y2, .int .u64 y3]))
    (ht : P.underlying t = some (.array 4 e)) (he : P.underlying e = some (.int .u64)) (hs : (P.info? e).map (·.size) = some 1) (h2 : P.eqGuardType P.depth t = false) (hk : K (.bool (decide (x0 = y0 ∧ x1 = y1 ∧ x2 = y2 ∧ x3 = y3)))) : QOk P (.binOp .eql t x y yt) ty env ro own K := by
  refine QOk.pu (fun h hs' d pos af g => .mk fun ρ w hρ _ => ?_) hk
  simp only [execOp, hρ _ _ hx, hρ _ _ hy, Sem.run_bind, run_eqGuard_agg w .eql t x y _ _ h2, Result.andThen_ok, run_eql_struct, run_equalIn_arr4 w 9998 ht he hs, Sem.run_pure]
theorem QOk.neqArr4 {t yt e : TypeId} {x y : Operand} {x0 x1 x2 x3 y0 y1 y2 y3 : Int} (hx : ev env x = some (.agg #[.int .u64 x0, .int .u64 x1, .int .u64 x2, .int .u64 x3])) (hy : ev env y = some (.agg #[.int .u64 y0, .int .u64 y1, .int .u64 y2, .int .u64 y3]))
    (ht : P.underlying t = some (.array 4 e)) (he : P.underlying e = some (.int .u64)) (hs : (P.info? e).map (·.size) = some 1) (h2 : P.eqGuardType P.depth t = false) (hk : K (.bool (!decide (x0 = y0 ∧ x1 = y1 ∧ x2 = y2 ∧ x3 = y3)))) : QOk P (.binOp .neq t x y yt) ty env ro own K := by
  refine QOk.pu (fun h hs' d pos af g => .mk fun ρ w hρ _ => ?_) hk
  simp only [execOp, hρ _ _ hx, hρ _ _ hy, Sem.run_bind, run_eqGuard_agg w .neq t x y _ _ h2, Result.andThen_ok, run_neq_struct, run_equalIn_arr4 w 9998 ht he hs, Sem.run_pure]
theorem QOk.buildK {t : TypeId} {ps : List (Nat × Operand)} {vs : List Value} (cs : List Value) (hv : evs env (ps.map (·.2)) = some vs) (hb : P.built t ((ps.map (·.1)).zip vs) = some cs.toArray) (hk : K (.agg cs.toArray)) : QOk P (.build t ps.toArray) ty env ro own K :=
  QOk.pu (fun h hs d pos af g => Pu.build cs.toArray hv hb) hk
end
end Go.E
