/- What single operations yield: numbers, tests, strings, slices, cells. No program in sight. -/
import Derived.Test.YtknfebfdehdapaaDoorEng
namespace Go.E
open Go
set_option linter.unusedSimpArgs false
set_option linter.unusedVariables false

section
variable {P : Program} {env : Env} {h : Heap} {d : Option Nat} {ty : TypeId} {pos : String} {af : Array Edge} {g : Option (Nat × Bool)}

theorem Pu.move {x : Operand} {v : Value} (hx : ev env x = some v) : Pu P ⟨d, .move x, ty, pos, af, g⟩ env h v := .mk fun ρ w hr _ => by
  simp [execOp, hr _ _ hx, Sem.run, pure]
theorem Pu.assign {x : Operand} {v : Value} (hx : ev env x = some v) : Pu P ⟨d, .assign x, ty, pos, af, g⟩ env h v := .mk fun ρ w hr _ => by
  simp [execOp, hr _ _ hx, Sem.run, pure]
theorem Pu.pick {c x y : Operand} {b : Bool} {v u : Value} (hc : ev env c = some (.bool b)) (hx : b = true → ev env x = some v) (hy : b = false → ev env y = some v) : Pu P ⟨d, .pick c x y, ty, pos, af, g⟩ env h v := .mk fun ρ w hr _ => by
  cases b
  · simp [execOp, hr _ _ hc, hr _ _ (hy rfl), asBool]
  · simp [execOp, hr _ _ hc, hr _ _ (hx rfl), asBool]
theorem Pu.pickT {c x y : Operand} {v : Value} (hc : ev env c = some (.bool true)) (hx : ev env x = some v) : Pu P ⟨d, .pick c x y, ty, pos, af, g⟩ env h v := .mk fun ρ w hr _ => by
  simp [execOp, hr _ _ hc, hr _ _ hx, asBool]
theorem Pu.pickF {c x y : Operand} {v : Value} (hc : ev env c = some (.bool false)) (hy : ev env y = some v) : Pu P ⟨d, .pick c x y, ty, pos, af, g⟩ env h v := .mk fun ρ w hr _ => by
  simp [execOp, hr _ _ hc, hr _ _ hy, asBool]
theorem Pu.not {t : TypeId} {x : Operand} {b : Bool} (hx : ev env x = some (.bool b)) : Pu P ⟨d, .unOp .not t x, ty, pos, af, g⟩ env h (.bool (!b)) := .mk fun ρ w hr _ => by
  simp [execOp, hr _ _ hx, Op.unary]
theorem Pu.notDec {t : TypeId} {x : Operand} {p : Prop} [Decidable p] (hx : ev env x = some (.bool (decide p))) : Pu P ⟨d, .unOp .not t x, ty, pos, af, g⟩ env h (.bool (decide (¬ p))) := .mk fun ρ w hr _ => by
  simp [execOp, hr _ _ hx, Op.unary]

/-! ### integers -/
def inI64 (n : Int) : Prop := -9223372036854775808 ≤ n ∧ n ≤ 9223372036854775807
theorem wrap_i64 {n : Int} (h : -9223372036854775808 ≤ n ∧ n ≤ 9223372036854775807) : IntKind.i64.wrap n = n := by
  simp only [IntKind.wrap, IntKind.bits, IntKind.signed]; simp; omega
theorem wrap_u64_nat (n : Nat) : IntKind.u64.wrap (n : Int) = ((n % 18446744073709551616 : Nat) : Int) := by
  simp [IntKind.wrap, IntKind.bits, IntKind.signed]
theorem wrap_u32_nat (n : Nat) : IntKind.u32.wrap (n : Int) = ((n % 4294967296 : Nat) : Int) := by
  simp [IntKind.wrap, IntKind.bits, IntKind.signed]
theorem wrap_u8_nat (n : Nat) : IntKind.u8.wrap (n : Int) = ((n % 256 : Nat) : Int) := by
  simp [IntKind.wrap, IntKind.bits, IntKind.signed]

theorem run_int2 {op : BinOp} {t yt : TypeId} {x y : Operand} {k : IntKind} {a b : Int} {ρ : Operand → Value} {w : World} (hx : ρ x = .int k a) (hy : ρ y = .int k b) (hop : op ≠ .shl ∧ op ≠ .shr) :
    (execOp ρ ⟨d, .binOp op t x y yt, ty, pos, af, g⟩).run P w = ((match op with
      | .add | .sub | .mul => Op.intArith op k a b
      | .quo | .rem => Op.intDiv op k a b
      | .and | .or | .xor | .andNot => Op.intBits op k a b
      | _ => Op.intCmp op a b).run P w).andThen fun v w => .ok (.value v) w := by
  simp only [execOp, hx, hy]
  cases op <;> simp_all [eqGuard, binOp, Sem.run_bind]

theorem Pu.int2 {op : BinOp} {t yt : TypeId} {x y : Operand} {k : IntKind} {a b : Int} {v : Value} (hx : ev env x = some (.int k a)) (hy : ev env y = some (.int k b)) (hop : op ≠ .shl ∧ op ≠ .shr)
    (hv : ∀ w, (match op with
      | .add | .sub | .mul => Op.intArith op k a b
      | .quo | .rem => Op.intDiv op k a b
      | .and | .or | .xor | .andNot => Op.intBits op k a b
      | _ => Op.intCmp op a b).run P w = .ok v w) : Pu P ⟨d, .binOp op t x y yt, ty, pos, af, g⟩ env h v := .mk fun ρ w hr _ => by
  rw [run_int2 (hr _ _ hx) (hr _ _ hy) hop, hv w]; rfl
theorem Pu.addI {t yt : TypeId} {x y : Operand} {a b : Int} (hx : ev env x = some (.int .i64 a)) (hy : ev env y = some (.int .i64 b)) (hr : -9223372036854775808 ≤ a + b ∧ a + b ≤ 9223372036854775807) :
    Pu P ⟨d, .binOp .add t x y yt, ty, pos, af, g⟩ env h (.int .i64 (a + b)) := Pu.int2 hx hy (by simp) fun w => by simp [Op.intArith, wrap_i64 hr]
theorem Pu.subI {t yt : TypeId} {x y : Operand} {a b : Int} (hx : ev env x = some (.int .i64 a)) (hy : ev env y = some (.int .i64 b)) (hr : -9223372036854775808 ≤ a - b ∧ a - b ≤ 9223372036854775807) :
    Pu P ⟨d, .binOp .sub t x y yt, ty, pos, af, g⟩ env h (.int .i64 (a - b)) := Pu.int2 hx hy (by simp) fun w => by simp [Op.intArith, wrap_i64 hr]
theorem Pu.mulI {t yt : TypeId} {x y : Operand} {a b : Int} (hx : ev env x = some (.int .i64 a)) (hy : ev env y = some (.int .i64 b)) (hr : -9223372036854775808 ≤ a * b ∧ a * b ≤ 9223372036854775807) :
    Pu P ⟨d, .binOp .mul t x y yt, ty, pos, af, g⟩ env h (.int .i64 (a * b)) := Pu.int2 hx hy (by simp) fun w => by simp [Op.intArith, wrap_i64 hr]
/-- Any kind, wrapped. -/
theorem Pu.addW {t yt : TypeId} {x y : Operand} {k : IntKind} {a b : Int} (hx : ev env x = some (.int k a)) (hy : ev env y = some (.int k b)) :
    Pu P ⟨d, .binOp .add t x y yt, ty, pos, af, g⟩ env h (.int k (k.wrap (a + b))) := Pu.int2 hx hy (by simp) fun w => by simp [Op.intArith]
theorem Pu.subW {t yt : TypeId} {x y : Operand} {k : IntKind} {a b : Int} (hx : ev env x = some (.int k a)) (hy : ev env y = some (.int k b)) :
    Pu P ⟨d, .binOp .sub t x y yt, ty, pos, af, g⟩ env h (.int k (k.wrap (a - b))) := Pu.int2 hx hy (by simp) fun w => by simp [Op.intArith]
theorem Pu.mulW {t yt : TypeId} {x y : Operand} {k : IntKind} {a b : Int} (hx : ev env x = some (.int k a)) (hy : ev env y = some (.int k b)) :
    Pu P ⟨d, .binOp .mul t x y yt, ty, pos, af, g⟩ env h (.int k (k.wrap (a * b))) := Pu.int2 hx hy (by simp) fun w => by simp [Op.intArith]
/-- A number of 64 bits without a sign, as a natural number. -/
theorem Pu.addU {t yt : TypeId} {x y : Operand} {a b : Nat} (hx : ev env x = some (.int .u64 (a : Int))) (hy : ev env y = some (.int .u64 (b : Int))) :
    Pu P ⟨d, .binOp .add t x y yt, ty, pos, af, g⟩ env h (.int .u64 (((a + b) % 18446744073709551616 : Nat) : Int)) := Pu.int2 hx hy (by simp) fun w => by
  rw [← wrap_u64_nat]; simp [Op.intArith]
theorem Pu.mulU {t yt : TypeId} {x y : Operand} {a b : Nat} (hx : ev env x = some (.int .u64 (a : Int))) (hy : ev env y = some (.int .u64 (b : Int))) :
    Pu P ⟨d, .binOp .mul t x y yt, ty, pos, af, g⟩ env h (.int .u64 (((a * b) % 18446744073709551616 : Nat) : Int)) := Pu.int2 hx hy (by simp) fun w => by
  rw [← wrap_u64_nat]; simp [Op.intArith]
theorem Pu.quoU {t yt : TypeId} {x y : Operand} {k : IntKind} {a b : Nat} (hx : ev env x = some (.int k (a : Int))) (hy : ev env y = some (.int k (b : Int))) (hb : b ≠ 0) (hw : k.wrap ((a / b : Nat) : Int) = ((a / b : Nat) : Int)) :
    Pu P ⟨d, .binOp .quo t x y yt, ty, pos, af, g⟩ env h (.int k ((a / b : Nat) : Int)) := Pu.int2 hx hy (by simp) fun w => by
  have hb' : (b : Int) ≠ 0 := by omega
  have he : (a : Int).tdiv (b : Int) = ((a / b : Nat) : Int) := by rw [Int.tdiv_eq_ediv_of_nonneg (by omega)]; simp
  simp only [Op.intDiv, hb', if_false, he, hw]; rfl
theorem Pu.remU {t yt : TypeId} {x y : Operand} {k : IntKind} {a b : Nat} (hx : ev env x = some (.int k (a : Int))) (hy : ev env y = some (.int k (b : Int))) (hb : b ≠ 0) :
    Pu P ⟨d, .binOp .rem t x y yt, ty, pos, af, g⟩ env h (.int k ((a % b : Nat) : Int)) := Pu.int2 hx hy (by simp) fun w => by
  have hb' : (b : Int) ≠ 0 := by omega
  have he : (a : Int).tmod (b : Int) = ((a % b : Nat) : Int) := by rw [Int.tmod_eq_emod_of_nonneg (by omega)]; simp
  simp only [Op.intDiv, hb', if_false, he]; rfl
theorem ofInt_nat (k a : Nat) : (BitVec.ofInt k (a : Int)).toNat = a % 2 ^ k := by simp
theorem Pu.andN {t yt : TypeId} {x y : Operand} {k : IntKind} {a b : Nat} (hx : ev env x = some (.int k (a : Int))) (hy : ev env y = some (.int k (b : Int))) (ha : a < 2 ^ k.bits) (hb : b < 2 ^ k.bits) (hw : k.wrap ((a &&& b : Nat) : Int) = ((a &&& b : Nat) : Int)) :
    Pu P ⟨d, .binOp .and t x y yt, ty, pos, af, g⟩ env h (.int k ((a &&& b : Nat) : Int)) := Pu.int2 hx hy (by simp) fun w => by
  simp only [Op.intBits, BitVec.toNat_and, ofInt_nat, Nat.mod_eq_of_lt ha, Nat.mod_eq_of_lt hb, hw]; rfl
theorem Pu.orN {t yt : TypeId} {x y : Operand} {k : IntKind} {a b : Nat} (hx : ev env x = some (.int k (a : Int))) (hy : ev env y = some (.int k (b : Int))) (ha : a < 2 ^ k.bits) (hb : b < 2 ^ k.bits) (hw : k.wrap ((a ||| b : Nat) : Int) = ((a ||| b : Nat) : Int)) :
    Pu P ⟨d, .binOp .or t x y yt, ty, pos, af, g⟩ env h (.int k ((a ||| b : Nat) : Int)) := Pu.int2 hx hy (by simp) fun w => by
  simp only [Op.intBits, BitVec.toNat_or, ofInt_nat, Nat.mod_eq_of_lt ha, Nat.mod_eq_of_lt hb, hw]; rfl
theorem Pu.xorN {t yt : TypeId} {x y : Operand} {k : IntKind} {a b : Nat} (hx : ev env x = some (.int k (a : Int))) (hy : ev env y = some (.int k (b : Int))) (ha : a < 2 ^ k.bits) (hb : b < 2 ^ k.bits) (hw : k.wrap ((a ^^^ b : Nat) : Int) = ((a ^^^ b : Nat) : Int)) :
    Pu P ⟨d, .binOp .xor t x y yt, ty, pos, af, g⟩ env h (.int k ((a ^^^ b : Nat) : Int)) := Pu.int2 hx hy (by simp) fun w => by
  simp only [Op.intBits, BitVec.toNat_xor, ofInt_nat, Nat.mod_eq_of_lt ha, Nat.mod_eq_of_lt hb, hw]; rfl
theorem wrap_bits {k : IntKind} (hs : k.signed = false) {n : Nat} (hn : n < 2 ^ k.bits) : k.wrap (n : Int) = (n : Int) := by
  cases k <;> simp [IntKind.signed] at hs <;> simp [IntKind.wrap, IntKind.bits, IntKind.signed] at hn ⊢ <;> omega
theorem Pu.andU {t yt : TypeId} {x y : Operand} {k : IntKind} {a b : Nat} (hx : ev env x = some (.int k (a : Int))) (hy : ev env y = some (.int k (b : Int))) (hs : k.signed = false) (ha : a < 2 ^ k.bits) (hb : b < 2 ^ k.bits) :
    Pu P ⟨d, .binOp .and t x y yt, ty, pos, af, g⟩ env h (.int k ((a &&& b : Nat) : Int)) := Pu.andN hx hy ha hb (wrap_bits hs (Nat.and_lt_two_pow _ hb))
theorem Pu.orU {t yt : TypeId} {x y : Operand} {k : IntKind} {a b : Nat} (hx : ev env x = some (.int k (a : Int))) (hy : ev env y = some (.int k (b : Int))) (hs : k.signed = false) (ha : a < 2 ^ k.bits) (hb : b < 2 ^ k.bits) :
    Pu P ⟨d, .binOp .or t x y yt, ty, pos, af, g⟩ env h (.int k ((a ||| b : Nat) : Int)) := Pu.orN hx hy ha hb (wrap_bits hs (Nat.or_lt_two_pow ha hb))
theorem Pu.xorU {t yt : TypeId} {x y : Operand} {k : IntKind} {a b : Nat} (hx : ev env x = some (.int k (a : Int))) (hy : ev env y = some (.int k (b : Int))) (hs : k.signed = false) (ha : a < 2 ^ k.bits) (hb : b < 2 ^ k.bits) :
    Pu P ⟨d, .binOp .xor t x y yt, ty, pos, af, g⟩ env h (.int k ((a ^^^ b : Nat) : Int)) := Pu.xorN hx hy ha hb (wrap_bits hs (Nat.xor_lt_two_pow ha hb))
/-- Shifts by a number that isn't below 0. -/
theorem run_shift {op : BinOp} {t yt : TypeId} {x y : Operand} {k ky : IntKind} {a : Int} {b : Int} {ρ : Operand → Value} {w : World} (hx : ρ x = .int k a) (hy : ρ y = .int ky b) (hop : op = .shl ∨ op = .shr) :
    (execOp ρ ⟨d, .binOp op t x y yt, ty, pos, af, g⟩).run P w = ((Op.shift op k a ky b).run P w).andThen fun v w => .ok (.value v) w := by
  simp only [execOp, hx, hy]
  rcases hop with rfl | rfl <;> simp [eqGuard, binOp, Sem.run_bind]
theorem Pu.shl {t yt : TypeId} {x y : Operand} {k ky : IntKind} {a b : Nat} (hx : ev env x = some (.int k (a : Int))) (hy : ev env y = some (.int ky (b : Int))) (hb : b ≤ k.bits) :
    Pu P ⟨d, .binOp .shl t x y yt, ty, pos, af, g⟩ env h (.int k (k.wrap ((a * 2 ^ b : Nat) : Int))) := .mk fun ρ w hr _ => by
  rw [run_shift (hr _ _ hx) (hr _ _ hy) (.inl rfl)]
  have h0 : ¬ ((b : Int) < 0) := by omega
  simp [Op.shift, h0, Nat.min_eq_left hb]
theorem Pu.shr {t yt : TypeId} {x y : Operand} {k ky : IntKind} {a b : Nat} (hx : ev env x = some (.int k (a : Int))) (hy : ev env y = some (.int ky (b : Int))) (hb : b ≤ k.bits) :
    Pu P ⟨d, .binOp .shr t x y yt, ty, pos, af, g⟩ env h (.int k ((a / 2 ^ b : Nat) : Int)) := .mk fun ρ w hr _ => by
  rw [run_shift (hr _ _ hx) (hr _ _ hy) (.inr rfl)]
  have h0 : ¬ ((b : Int) < 0) := by omega
  have e : (a : Int).fdiv (2 ^ b) = ((a / 2 ^ b : Nat) : Int) := by
    rw [Int.fdiv_eq_ediv_of_nonneg _ (Int.le_of_lt (Int.pow_pos (by omega)))]
    simp
  simp [Op.shift, h0, Nat.min_eq_left hb, e]
theorem Pu.shrI {t yt : TypeId} {x y : Operand} {k ky : IntKind} {a : Nat} {b : Int} (hx : ev env x = some (.int k (a : Int))) (hy : ev env y = some (.int ky b)) (h0 : 0 ≤ b) (hb : b ≤ k.bits) :
    Pu P ⟨d, .binOp .shr t x y yt, ty, pos, af, g⟩ env h (.int k ((a / 2 ^ b.toNat : Nat) : Int)) :=
  Pu.shr hx (by rw [hy, Int.toNat_of_nonneg h0]) (by omega)
theorem Pu.shlU {t yt : TypeId} {x y : Operand} {ky : IntKind} {a b : Nat} (hx : ev env x = some (.int .u64 (a : Int))) (hy : ev env y = some (.int ky (b : Int))) (hb : b ≤ 64) :
    Pu P ⟨d, .binOp .shl t x y yt, ty, pos, af, g⟩ env h (.int .u64 (((a * 2 ^ b) % 18446744073709551616 : Nat) : Int)) := by
  rw [← wrap_u64_nat]; exact Pu.shl hx hy hb

/-! ### tests -/
theorem Pu.cmp {op : BinOp} {t yt : TypeId} {x y : Operand} {k : IntKind} {a b : Int} {c : Bool} (hx : ev env x = some (.int k a)) (hy : ev env y = some (.int k b)) (hop : op ≠ .shl ∧ op ≠ .shr)
    (hv : ∀ w, (match op with
      | .add | .sub | .mul => Op.intArith op k a b
      | .quo | .rem => Op.intDiv op k a b
      | .and | .or | .xor | .andNot => Op.intBits op k a b
      | _ => Op.intCmp op a b).run P w = .ok (.bool c) w) : Pu P ⟨d, .binOp op t x y yt, ty, pos, af, g⟩ env h (.bool c) := Pu.int2 hx hy hop hv
theorem Pu.eql {t yt : TypeId} {x y : Operand} {k : IntKind} {a b : Int} (hx : ev env x = some (.int k a)) (hy : ev env y = some (.int k b)) :
    Pu P ⟨d, .binOp .eql t x y yt, ty, pos, af, g⟩ env h (.bool (decide (a = b))) := Pu.int2 hx hy (by simp) fun w => rfl
theorem Pu.neq {t yt : TypeId} {x y : Operand} {k : IntKind} {a b : Int} (hx : ev env x = some (.int k a)) (hy : ev env y = some (.int k b)) :
    Pu P ⟨d, .binOp .neq t x y yt, ty, pos, af, g⟩ env h (.bool (decide (a ≠ b))) := Pu.int2 hx hy (by simp) fun w => by simp [Op.intCmp, bne]; rfl
theorem Pu.lss {t yt : TypeId} {x y : Operand} {k : IntKind} {a b : Int} (hx : ev env x = some (.int k a)) (hy : ev env y = some (.int k b)) :
    Pu P ⟨d, .binOp .lss t x y yt, ty, pos, af, g⟩ env h (.bool (decide (a < b))) := Pu.int2 hx hy (by simp) fun w => rfl
theorem Pu.leq {t yt : TypeId} {x y : Operand} {k : IntKind} {a b : Int} (hx : ev env x = some (.int k a)) (hy : ev env y = some (.int k b)) :
    Pu P ⟨d, .binOp .leq t x y yt, ty, pos, af, g⟩ env h (.bool (decide (a ≤ b))) := Pu.int2 hx hy (by simp) fun w => rfl
theorem Pu.gtr {t yt : TypeId} {x y : Operand} {k : IntKind} {a b : Int} (hx : ev env x = some (.int k a)) (hy : ev env y = some (.int k b)) :
    Pu P ⟨d, .binOp .gtr t x y yt, ty, pos, af, g⟩ env h (.bool (decide (a > b))) := Pu.int2 hx hy (by simp) fun w => rfl
theorem Pu.geq {t yt : TypeId} {x y : Operand} {k : IntKind} {a b : Int} (hx : ev env x = some (.int k a)) (hy : ev env y = some (.int k b)) :
    Pu P ⟨d, .binOp .geq t x y yt, ty, pos, af, g⟩ env h (.bool (decide (a ≥ b))) := Pu.int2 hx hy (by simp) fun w => rfl
theorem Pu.eqlT {t yt : TypeId} {x y : Operand} {k : IntKind} {a b : Int} (hx : ev env x = some (.int k a)) (hy : ev env y = some (.int k b)) (hc : a = b) :
    Pu P ⟨d, .binOp .eql t x y yt, ty, pos, af, g⟩ env h (.bool true) := by
  have := Pu.eql (P := P) (h := h) (d := d) (ty := ty) (pos := pos) (af := af) (g := g) (t := t) (yt := yt) hx hy
  rwa [decide_eq_true hc] at this
theorem Pu.eqlF {t yt : TypeId} {x y : Operand} {k : IntKind} {a b : Int} (hx : ev env x = some (.int k a)) (hy : ev env y = some (.int k b)) (hc : ¬ (a = b)) :
    Pu P ⟨d, .binOp .eql t x y yt, ty, pos, af, g⟩ env h (.bool false) := by
  have := Pu.eql (P := P) (h := h) (d := d) (ty := ty) (pos := pos) (af := af) (g := g) (t := t) (yt := yt) hx hy
  rwa [decide_eq_false hc] at this
theorem Pu.neqT {t yt : TypeId} {x y : Operand} {k : IntKind} {a b : Int} (hx : ev env x = some (.int k a)) (hy : ev env y = some (.int k b)) (hc : a ≠ b) :
    Pu P ⟨d, .binOp .neq t x y yt, ty, pos, af, g⟩ env h (.bool true) := by
  have := Pu.neq (P := P) (h := h) (d := d) (ty := ty) (pos := pos) (af := af) (g := g) (t := t) (yt := yt) hx hy
  rwa [decide_eq_true hc] at this
theorem Pu.neqF {t yt : TypeId} {x y : Operand} {k : IntKind} {a b : Int} (hx : ev env x = some (.int k a)) (hy : ev env y = some (.int k b)) (hc : ¬ (a ≠ b)) :
    Pu P ⟨d, .binOp .neq t x y yt, ty, pos, af, g⟩ env h (.bool false) := by
  have := Pu.neq (P := P) (h := h) (d := d) (ty := ty) (pos := pos) (af := af) (g := g) (t := t) (yt := yt) hx hy
  rwa [decide_eq_false hc] at this
theorem Pu.lssT {t yt : TypeId} {x y : Operand} {k : IntKind} {a b : Int} (hx : ev env x = some (.int k a)) (hy : ev env y = some (.int k b)) (hc : a < b) :
    Pu P ⟨d, .binOp .lss t x y yt, ty, pos, af, g⟩ env h (.bool true) := by
  have := Pu.lss (P := P) (h := h) (d := d) (ty := ty) (pos := pos) (af := af) (g := g) (t := t) (yt := yt) hx hy
  rwa [decide_eq_true hc] at this
theorem Pu.lssF {t yt : TypeId} {x y : Operand} {k : IntKind} {a b : Int} (hx : ev env x = some (.int k a)) (hy : ev env y = some (.int k b)) (hc : ¬ (a < b)) :
    Pu P ⟨d, .binOp .lss t x y yt, ty, pos, af, g⟩ env h (.bool false) := by
  have := Pu.lss (P := P) (h := h) (d := d) (ty := ty) (pos := pos) (af := af) (g := g) (t := t) (yt := yt) hx hy
  rwa [decide_eq_false hc] at this
theorem Pu.leqT {t yt : TypeId} {x y : Operand} {k : IntKind} {a b : Int} (hx : ev env x = some (.int k a)) (hy : ev env y = some (.int k b)) (hc : a ≤ b) :
    Pu P ⟨d, .binOp .leq t x y yt, ty, pos, af, g⟩ env h (.bool true) := by
  have := Pu.leq (P := P) (h := h) (d := d) (ty := ty) (pos := pos) (af := af) (g := g) (t := t) (yt := yt) hx hy
  rwa [decide_eq_true hc] at this
theorem Pu.leqF {t yt : TypeId} {x y : Operand} {k : IntKind} {a b : Int} (hx : ev env x = some (.int k a)) (hy : ev env y = some (.int k b)) (hc : ¬ (a ≤ b)) :
    Pu P ⟨d, .binOp .leq t x y yt, ty, pos, af, g⟩ env h (.bool false) := by
  have := Pu.leq (P := P) (h := h) (d := d) (ty := ty) (pos := pos) (af := af) (g := g) (t := t) (yt := yt) hx hy
  rwa [decide_eq_false hc] at this
theorem Pu.gtrT {t yt : TypeId} {x y : Operand} {k : IntKind} {a b : Int} (hx : ev env x = some (.int k a)) (hy : ev env y = some (.int k b)) (hc : a > b) :
    Pu P ⟨d, .binOp .gtr t x y yt, ty, pos, af, g⟩ env h (.bool true) := by
  have := Pu.gtr (P := P) (h := h) (d := d) (ty := ty) (pos := pos) (af := af) (g := g) (t := t) (yt := yt) hx hy
  rwa [decide_eq_true hc] at this
theorem Pu.gtrF {t yt : TypeId} {x y : Operand} {k : IntKind} {a b : Int} (hx : ev env x = some (.int k a)) (hy : ev env y = some (.int k b)) (hc : ¬ (a > b)) :
    Pu P ⟨d, .binOp .gtr t x y yt, ty, pos, af, g⟩ env h (.bool false) := by
  have := Pu.gtr (P := P) (h := h) (d := d) (ty := ty) (pos := pos) (af := af) (g := g) (t := t) (yt := yt) hx hy
  rwa [decide_eq_false hc] at this
theorem Pu.geqT {t yt : TypeId} {x y : Operand} {k : IntKind} {a b : Int} (hx : ev env x = some (.int k a)) (hy : ev env y = some (.int k b)) (hc : a ≥ b) :
    Pu P ⟨d, .binOp .geq t x y yt, ty, pos, af, g⟩ env h (.bool true) := by
  have := Pu.geq (P := P) (h := h) (d := d) (ty := ty) (pos := pos) (af := af) (g := g) (t := t) (yt := yt) hx hy
  rwa [decide_eq_true hc] at this
theorem Pu.geqF {t yt : TypeId} {x y : Operand} {k : IntKind} {a b : Int} (hx : ev env x = some (.int k a)) (hy : ev env y = some (.int k b)) (hc : ¬ (a ≥ b)) :
    Pu P ⟨d, .binOp .geq t x y yt, ty, pos, af, g⟩ env h (.bool false) := by
  have := Pu.geq (P := P) (h := h) (d := d) (ty := ty) (pos := pos) (af := af) (g := g) (t := t) (yt := yt) hx hy
  rwa [decide_eq_false hc] at this
theorem run_equal_bool {t : TypeId} (ht : P.underlying t = some .bool) (a b : Bool) (w : World) : (Op.equal t (.bool a) (.bool b)).run P w = .ok (a == b) w := by
  show (Op.equalIn (9999 + 1) t (.bool a) (.bool b)).run P w = .ok (a == b) w
  unfold Op.equalIn
  simp [run_underlying ht]
theorem Pu.eqlB {t yt : TypeId} {x y : Operand} {a b : Bool} (ht : P.underlying t = some .bool) (hx : ev env x = some (.bool a)) (hy : ev env y = some (.bool b)) :
    Pu P ⟨d, .binOp .eql t x y yt, ty, pos, af, g⟩ env h (.bool (decide (a = b))) := .mk fun ρ w hr _ => by
  simp only [execOp, hr _ _ hx, hr _ _ hy, eqGuard, binOp, Sem.run_bind, run_equal_bool ht]; cases a <;> cases b <;> rfl
theorem Pu.neqB {t yt : TypeId} {x y : Operand} {a b : Bool} (ht : P.underlying t = some .bool) (hx : ev env x = some (.bool a)) (hy : ev env y = some (.bool b)) :
    Pu P ⟨d, .binOp .neq t x y yt, ty, pos, af, g⟩ env h (.bool (decide (a ≠ b))) := .mk fun ρ w hr _ => by
  simp only [execOp, hr _ _ hx, hr _ _ hy, eqGuard, binOp, Sem.run_bind, run_equal_bool ht]; cases a <;> cases b <;> rfl

/-- A pointer against nil. -/
theorem run_equal_ptr_nil {t e : TypeId} (ht : P.underlying t = some (.pointer e)) (a : Addr) (w : World) : (Op.equal t (.pointer (some a)) (.pointer none)).run P w = .ok false w := by
  show (Op.equalIn (9999 + 1) t (.pointer (some a)) (.pointer none)).run P w = .ok false w
  unfold Op.equalIn
  simp [run_underlying ht]
theorem Pu.eqlNil {t yt e : TypeId} {x : Operand} {a : Addr} (hx : ev env x = some (.pointer (some a))) (ht : P.underlying t = some (.pointer e)) :
    Pu P ⟨d, .binOp .eql t x (.const (.pointer none)) yt, ty, pos, af, g⟩ env h (.bool false) := .mk fun ρ w hr _ => by
  have hy : ρ (.const (.pointer none)) = .pointer none := hr _ _ rfl
  simp only [execOp, hr _ _ hx, hy, eqGuard, binOp, Sem.run_bind, run_equal_ptr_nil ht]; rfl
theorem Pu.neqNil {t yt e : TypeId} {x : Operand} {a : Addr} (hx : ev env x = some (.pointer (some a))) (ht : P.underlying t = some (.pointer e)) :
    Pu P ⟨d, .binOp .neq t x (.const (.pointer none)) yt, ty, pos, af, g⟩ env h (.bool true) := .mk fun ρ w hr _ => by
  have hy : ρ (.const (.pointer none)) = .pointer none := hr _ _ rfl
  simp only [execOp, hr _ _ hx, hy, eqGuard, binOp, Sem.run_bind, run_equal_ptr_nil ht]; rfl

/-! ### conversions of integers -/
theorem Pu.conv {s t : TypeId} {x : Operand} {k k' : IntKind} {a : Int} {du : TypeDesc} (hs : P.underlying s = some du) (ht : P.underlying t = some (.int k)) (hx : ev env x = some (.int k' a)) :
    Pu P ⟨d, .convert s t x, ty, pos, af, g⟩ env h (.int k (k.wrap a)) := .mk fun ρ w hr _ => by
  simp [execOp, hr _ _ hx, convert, run_underlying hs, run_underlying ht, Conv.intToInt]
theorem Pu.convSame {s t : TypeId} {x : Operand} {k k' : IntKind} {a : Int} {du : TypeDesc} (hx : ev env x = some (.int k' a)) (hs : P.underlying s = some du) (ht : P.underlying t = some (.int k)) (hw : k.wrap a = a) :
    Pu P ⟨d, .convert s t x, ty, pos, af, g⟩ env h (.int k a) := by
  have := Pu.conv (h := h) (d := d) (ty := ty) (pos := pos) (af := af) (g := g) hs ht hx; rwa [hw] at this
theorem Pu.convU8 {s t : TypeId} {x : Operand} {k' : IntKind} {a : Nat} {du : TypeDesc} (hx : ev env x = some (.int k' (a : Int))) (hs : P.underlying s = some du) (ht : P.underlying t = some (.int .u8)) :
    Pu P ⟨d, .convert s t x, ty, pos, af, g⟩ env h (.int .u8 ((a % 256 : Nat) : Int)) := by
  rw [← wrap_u8_nat]; exact Pu.conv hs ht hx

/-! ### len, min, max, cap -/
theorem Pu.len {t : TypeId} {x : Operand} {e : TypeId} {a : Option Addr} {n c : Nat} (ht : P.underlying t = some (.slice e)) (hx : ev env x = some (.slice a n c)) :
    Pu P ⟨d, .call { callee := .builtin .len, args := #[x], argTypes := #[t] }, ty, pos, af, g⟩ env h (.int .i64 (n : Int)) := .mk fun ρ w hr _ => by
  simp [execOp, resolve, invoke, builtin, Builtin.len_, hr _ _ hx, run_underlying ht, goInt]
theorem Pu.lenS {t : TypeId} {x : Operand} {s : ByteArray} (ht : P.underlying t = some .string) (hx : ev env x = some (.string s)) :
    Pu P ⟨d, .call { callee := .builtin .len, args := #[x], argTypes := #[t] }, ty, pos, af, g⟩ env h (.int .i64 (s.size : Int)) := .mk fun ρ w hr _ => by
  simp [execOp, resolve, invoke, builtin, Builtin.len_, hr _ _ hx, run_underlying ht, goInt]
theorem Pu.cap {t : TypeId} {x : Operand} {e : TypeId} {a : Option Addr} {n c : Nat} (ht : P.underlying t = some (.slice e)) (hx : ev env x = some (.slice a n c)) :
    Pu P ⟨d, .call { callee := .builtin .cap, args := #[x], argTypes := #[t] }, ty, pos, af, g⟩ env h (.int .i64 (c : Int)) := .mk fun ρ w hr _ => by
  simp [execOp, resolve, invoke, builtin, Builtin.cap_, hr _ _ hx, run_underlying ht, goInt]
theorem Pu.min {x y : Operand} {ts : Array TypeId} {k : IntKind} {a b : Int} (hx : ev env x = some (.int k a)) (hy : ev env y = some (.int k b)) :
    Pu P ⟨d, .call { callee := .builtin .min, args := #[x, y], argTypes := ts }, ty, pos, af, g⟩ env h (.int k (Min.min a b)) := .mk fun ρ w hr _ => by
  have e : (if b < a then b else a) = Min.min a b := by simp only [Int.min_def]; split <;> split <;> omega
  simp [execOp, resolve, invoke, builtin, Builtin.min_, Builtin.min2, hr _ _ hx, hr _ _ hy, e]
theorem Pu.max {x y : Operand} {ts : Array TypeId} {k : IntKind} {a b : Int} (hx : ev env x = some (.int k a)) (hy : ev env y = some (.int k b)) :
    Pu P ⟨d, .call { callee := .builtin .max, args := #[x, y], argTypes := ts }, ty, pos, af, g⟩ env h (.int k (Max.max a b)) := .mk fun ρ w hr _ => by
  have e : (if b > a then b else a) = Max.max a b := by simp only [Int.max_def]; split <;> split <;> omega
  simp [execOp, resolve, invoke, builtin, Builtin.max_, Builtin.max2, hr _ _ hx, hr _ _ hy, e]

/-! ### tuples, structs by value -/
def nthV : List Value → Nat → Option Value
  | v :: _, 0 => some v
  | _ :: r, n + 1 => nthV r n
  | [], _ => none
theorem nthV_spec : ∀ {l : List Value} {i : Nat} {v : Value}, nthV l i = some v → l[i]? = some v
  | v :: _, 0, _, h => by simpa [nthV] using h
  | _ :: r, n + 1, _, h => by simpa using nthV_spec (l := r) (by simpa [nthV] using h)
  | [], _, _, h => by simp [nthV] at h
theorem Pu.extract {x : Operand} {vs : List Value} {i : Nat} {v : Value} (hx : ev env x = some (.tuple vs.toArray)) (hv : nthV vs i = some v) : Pu P ⟨d, .extract x i, ty, pos, af, g⟩ env h v := .mk fun ρ w hr _ => by
  simp [execOp, hr _ _ hx, Instr.extract, nthV_spec hv]
theorem Pu.nilCheck {x : Operand} {a : Addr} (hx : ev env x = some (.pointer (some a))) : Pu P ⟨d, .nilCheck x, ty, pos, af, g⟩ env h (.pointer (some a)) := .mk fun ρ w hr _ => by
  simp [execOp, hr _ _ hx]
end
end Go.E
