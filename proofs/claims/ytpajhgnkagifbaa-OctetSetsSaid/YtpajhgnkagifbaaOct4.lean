/- Contracts of package octet: the number of bytes. -/
import Derived.Test.YtpajhgnkagifbaaOct3
namespace Go.Proofs.Ytpajhgnkagifbaa
open Go Go.E
set_option linter.unusedVariables false

def num (l : List UInt8) : Nat := l.foldl (fun a c => a * 256 + c.toNat) 0
theorem num_snoc (l : List UInt8) (c : UInt8) : num (l ++ [c]) = num l * 256 + c.toNat := by simp [num]
theorem num_lt (l : List UInt8) : num l < 256 ^ l.length := by
  have : ∀ (l : List UInt8), num l.reverse < 256 ^ l.length := by
    intro l
    induction l with
    | nil => simp [num]
    | cons c l ih =>
      rw [List.reverse_cons, num_snoc, List.length_cons, Nat.pow_succ]
      have := c.toNat_lt
      omega
  have h := this l.reverse
  simpa using h
def octSeq (l : List UInt8) (little : Bool) : List UInt8 := if little then (l.take 8).reverse else l.take 8
def octOf (l : List UInt8) (little : Bool) : Nat := num (octSeq l little)
theorem or_low (a : Nat) (c : UInt8) : (a * 2 ^ 8) ||| c.toNat = a * 256 + c.toNat := by
  have := Nat.two_pow_add_eq_or_of_lt (i := 8) (b := c.toNat) c.toNat_lt a
  rw [Nat.mul_comm a (2 ^ 8), ← this]
theorem take_snoc {α : Type} (l : List α) (i : Nat) (c : α) (hc : l[i]? = some c) : l.take (i + 1) = l.take i ++ [c] := by
  rw [List.take_add_one, hc]; rfl

theorem of_spec (v : Value) (l : List UInt8) (little : Bool) (h : Heap) (hb : Bs h v l) :
    Meets Try.prog 21 #[v, .bool little] h (fun u h' => u = .int .u64 (octOf l little : Int) ∧ h = h') := by
  obtain ⟨a, c, rfl, h1, h2⟩ := hb.slice
  have hm := maxLen_le h2
  refine Meets.intro (n := _) Try.func21 rfl Try.ntmps21 rfl fun σ => ?_
  repeat (first
    | refine L.move rfl rfl ?_
    | refine L.assign rfl rfl ?_
    | (show L _ _ _ _ _ (⟨_, .binOp _ _ _ _ _, _, _, _, none⟩ :: _) _ _; first | (show L _ _ _ _ _ (⟨_, .binOp .add _ _ _ _, _, _, _, none⟩ :: _) _ _; first | refine L.addI rfl rfl (by omega) rfl ?_) | (show L _ _ _ _ _ (⟨_, .binOp .sub _ _ _ _, _, _, _, none⟩ :: _) _ _; first | refine L.subI rfl rfl (by omega) rfl ?_) | (show L _ _ _ _ _ (⟨_, .binOp .mul _ _ _ _, _, _, _, none⟩ :: _) _ _; first | refine L.mulI rfl rfl (by omega) rfl ?_) | (show L _ _ _ _ _ (⟨_, .binOp .eql _ _ _ _, _, _, _, none⟩ :: _) _ _; first | refine L.eql rfl rfl rfl ?_ | refine L.eqlS rfl rfl rfl ?_ | refine L.eqlNil rfl rfl rfl ?_ | refine L.eqlB rfl rfl rfl rfl ?_) | (show L _ _ _ _ _ (⟨_, .binOp .neq _ _ _ _, _, _, _, none⟩ :: _) _ _; first | refine L.neq rfl rfl rfl ?_ | refine L.neqS rfl rfl rfl ?_ | refine L.neqNil rfl rfl rfl ?_ | refine L.neqB rfl rfl rfl rfl ?_) | (show L _ _ _ _ _ (⟨_, .binOp .lss _ _ _ _, _, _, _, none⟩ :: _) _ _; first | refine L.lss rfl rfl rfl ?_) | (show L _ _ _ _ _ (⟨_, .binOp .leq _ _ _ _, _, _, _, none⟩ :: _) _ _; first | refine L.leq rfl rfl rfl ?_) | (show L _ _ _ _ _ (⟨_, .binOp .gtr _ _ _ _, _, _, _, none⟩ :: _) _ _; first | refine L.gtr rfl rfl rfl ?_) | (show L _ _ _ _ _ (⟨_, .binOp .geq _ _ _ _, _, _, _, none⟩ :: _) _ _; first | refine L.geq rfl rfl rfl ?_))
    | (show L _ _ _ _ _ (⟨_, .call _, _, _, _, none⟩ :: _) _ _; first | refine L.len rfl rfl rfl ?_ | refine L.lenStr rfl rfl rfl ?_ | refine L.min rfl rfl rfl ?_ | refine L.max rfl rfl rfl ?_)
    | (show L _ _ _ _ _ (⟨_, _, _, _, _, none⟩ :: _) _ _; first | refine L.extract rfl rfl rfl ?_ | refine L.nilCheck rfl rfl ?_ | refine L.fieldAddr rfl rfl rfl rfl rfl ?_ | refine L.load rfl rfl rfl (by assumption) rfl ?_ | refine L.load rfl rfl rfl (Row.cell (by assumption) (by rfl)) rfl ?_ | refine L.pickT rfl rfl rfl ?_ | refine L.pickF rfl rfl rfl ?_ | refine L.notDec rfl rfl ?_ | refine L.not rfl rfl ?_ | refine L.convSame rfl rfl rfl (wrap_i64 (by omega)) rfl ?_)
    | (show L _ _ _ _ _ (⟨_, _, _, _, _, some _⟩ :: _) _ _; first | refine L.guard rfl rfl ?_ | refine L.guard_not rfl rfl rfl ?_)
    | refine L.nil ?_
    | (show N _ _ _ _ _; first | refine N.then_normal ?_ | refine N.wp ?_ | refine N.then_ret ?_ | refine N.block_normal ?_ | refine N.block_ret ?_ | refine N.then_exit ?_ | refine N.block_same ?_ | refine N.block_other rfl ?_)
    | (show C _ _ _ _ _ _ _; first | refine C.seq ?_ | refine C.region ?_ | refine C.skip ?_ | refine C.ret ?_ | refine C.block ?_ | refine C.exit ?_ | refine C.tt rfl ?_ | refine C.ff rfl ?_))
  refine L.cutH (s := 1) rfl rfl rfl rfl (by omega) (by omega) rfl ?_
  have e : (min (l.length : Int) 8).toNat = min l.length 8 := by omega
  have hb2 := hb.cut (k := 0) (m := min l.length 8) (by omega) (by omega)
  rw [e]
  have em : (l.drop 0).take (min l.length 8 - 0) = l.take 8 := by simp [List.take_eq_take_iff]; omega
  rw [em] at hb2
  generalize sliced a 0 (min l.length 8) c 1 = v2 at hb2 ⊢
  obtain ⟨a2, c2, rfl, h3, h4⟩ := hb2.slice
  have hm2 := maxLen_le h4
  have hl8 : (l.take 8).length ≤ 8 := by simp; omega
  have hS : (octSeq l little).length = (l.take 8).length := by unfold octSeq; split <;> simp
  have hle : ∀ i, num ((octSeq l little).take i) < 256 ^ i := fun i =>
    Nat.lt_of_lt_of_le (num_lt _) (Nat.pow_le_pow_right (by omega) (by simp; omega))
  repeat (first
    | refine L.move rfl rfl ?_
    | refine L.assign rfl rfl ?_
    | (show L _ _ _ _ _ (⟨_, .binOp _ _ _ _ _, _, _, _, none⟩ :: _) _ _; first | (show L _ _ _ _ _ (⟨_, .binOp .add _ _ _ _, _, _, _, none⟩ :: _) _ _; first | refine L.addI rfl rfl (by omega) rfl ?_) | (show L _ _ _ _ _ (⟨_, .binOp .sub _ _ _ _, _, _, _, none⟩ :: _) _ _; first | refine L.subI rfl rfl (by omega) rfl ?_) | (show L _ _ _ _ _ (⟨_, .binOp .mul _ _ _ _, _, _, _, none⟩ :: _) _ _; first | refine L.mulI rfl rfl (by omega) rfl ?_) | (show L _ _ _ _ _ (⟨_, .binOp .eql _ _ _ _, _, _, _, none⟩ :: _) _ _; first | refine L.eql rfl rfl rfl ?_ | refine L.eqlS rfl rfl rfl ?_ | refine L.eqlNil rfl rfl rfl ?_ | refine L.eqlB rfl rfl rfl rfl ?_) | (show L _ _ _ _ _ (⟨_, .binOp .neq _ _ _ _, _, _, _, none⟩ :: _) _ _; first | refine L.neq rfl rfl rfl ?_ | refine L.neqS rfl rfl rfl ?_ | refine L.neqNil rfl rfl rfl ?_ | refine L.neqB rfl rfl rfl rfl ?_) | (show L _ _ _ _ _ (⟨_, .binOp .lss _ _ _ _, _, _, _, none⟩ :: _) _ _; first | refine L.lss rfl rfl rfl ?_) | (show L _ _ _ _ _ (⟨_, .binOp .leq _ _ _ _, _, _, _, none⟩ :: _) _ _; first | refine L.leq rfl rfl rfl ?_) | (show L _ _ _ _ _ (⟨_, .binOp .gtr _ _ _ _, _, _, _, none⟩ :: _) _ _; first | refine L.gtr rfl rfl rfl ?_) | (show L _ _ _ _ _ (⟨_, .binOp .geq _ _ _ _, _, _, _, none⟩ :: _) _ _; first | refine L.geq rfl rfl rfl ?_))
    | (show L _ _ _ _ _ (⟨_, .call _, _, _, _, none⟩ :: _) _ _; first | refine L.len rfl rfl rfl ?_ | refine L.lenStr rfl rfl rfl ?_ | refine L.min rfl rfl rfl ?_ | refine L.max rfl rfl rfl ?_)
    | (show L _ _ _ _ _ (⟨_, _, _, _, _, none⟩ :: _) _ _; first | refine L.extract rfl rfl rfl ?_ | refine L.nilCheck rfl rfl ?_ | refine L.fieldAddr rfl rfl rfl rfl rfl ?_ | refine L.load rfl rfl rfl (by assumption) rfl ?_ | refine L.load rfl rfl rfl (Row.cell (by assumption) (by rfl)) rfl ?_ | refine L.pickT rfl rfl rfl ?_ | refine L.pickF rfl rfl rfl ?_ | refine L.notDec rfl rfl ?_ | refine L.not rfl rfl ?_ | refine L.convSame rfl rfl rfl (wrap_i64 (by omega)) rfl ?_)
    | (show L _ _ _ _ _ (⟨_, _, _, _, _, some _⟩ :: _) _ _; first | refine L.guard rfl rfl ?_ | refine L.guard_not rfl rfl rfl ?_)
    | refine L.nil ?_
    | (show N _ _ _ _ _; first | refine N.then_normal ?_ | refine N.wp ?_ | refine N.then_ret ?_ | refine N.block_normal ?_ | refine N.block_ret ?_ | refine N.then_exit ?_ | refine N.block_same ?_ | refine N.block_other rfl ?_)
    | (show C _ _ _ _ _ _ _; first | refine C.seq ?_ | refine C.region ?_ | refine C.skip ?_ | refine C.ret ?_ | refine C.block ?_ | refine C.exit ?_ | refine C.tt rfl ?_ | refine C.ff rfl ?_))
  refine C.loop (ι := Nat) (fun i => [(0, .slice a2 (l.take 8).length c2), (1, .bool little), (5, .int .u64 (num ((octSeq l little).take i) : Int)), (14, .int .i64 ((l.take 8).length : Int)), (15, .int .i64 (i : Int))])
    (fun i h' => i ≤ (l.take 8).length ∧ h = h') (fun i => (l.take 8).length - i) 0 ⟨by omega, rfl⟩ (by repeat (first | exact trivial | refine Sub.cons rfl ?_)) ?_
  rintro i _ ⟨hi, rfl⟩
  repeat (first
    | refine L.move rfl rfl ?_
    | refine L.assign rfl rfl ?_
    | (show L _ _ _ _ _ (⟨_, .binOp _ _ _ _ _, _, _, _, none⟩ :: _) _ _; first | (show L _ _ _ _ _ (⟨_, .binOp .add _ _ _ _, _, _, _, none⟩ :: _) _ _; first | refine L.addI rfl rfl (by omega) rfl ?_) | (show L _ _ _ _ _ (⟨_, .binOp .sub _ _ _ _, _, _, _, none⟩ :: _) _ _; first | refine L.subI rfl rfl (by omega) rfl ?_) | (show L _ _ _ _ _ (⟨_, .binOp .mul _ _ _ _, _, _, _, none⟩ :: _) _ _; first | refine L.mulI rfl rfl (by omega) rfl ?_) | (show L _ _ _ _ _ (⟨_, .binOp .eql _ _ _ _, _, _, _, none⟩ :: _) _ _; first | refine L.eql rfl rfl rfl ?_ | refine L.eqlS rfl rfl rfl ?_ | refine L.eqlNil rfl rfl rfl ?_ | refine L.eqlB rfl rfl rfl rfl ?_) | (show L _ _ _ _ _ (⟨_, .binOp .neq _ _ _ _, _, _, _, none⟩ :: _) _ _; first | refine L.neq rfl rfl rfl ?_ | refine L.neqS rfl rfl rfl ?_ | refine L.neqNil rfl rfl rfl ?_ | refine L.neqB rfl rfl rfl rfl ?_) | (show L _ _ _ _ _ (⟨_, .binOp .lss _ _ _ _, _, _, _, none⟩ :: _) _ _; first | refine L.lss rfl rfl rfl ?_) | (show L _ _ _ _ _ (⟨_, .binOp .leq _ _ _ _, _, _, _, none⟩ :: _) _ _; first | refine L.leq rfl rfl rfl ?_) | (show L _ _ _ _ _ (⟨_, .binOp .gtr _ _ _ _, _, _, _, none⟩ :: _) _ _; first | refine L.gtr rfl rfl rfl ?_) | (show L _ _ _ _ _ (⟨_, .binOp .geq _ _ _ _, _, _, _, none⟩ :: _) _ _; first | refine L.geq rfl rfl rfl ?_))
    | (show L _ _ _ _ _ (⟨_, .call _, _, _, _, none⟩ :: _) _ _; first | refine L.len rfl rfl rfl ?_ | refine L.lenStr rfl rfl rfl ?_ | refine L.min rfl rfl rfl ?_ | refine L.max rfl rfl rfl ?_)
    | (show L _ _ _ _ _ (⟨_, _, _, _, _, none⟩ :: _) _ _; first | refine L.extract rfl rfl rfl ?_ | refine L.nilCheck rfl rfl ?_ | refine L.fieldAddr rfl rfl rfl rfl rfl ?_ | refine L.load rfl rfl rfl (by assumption) rfl ?_ | refine L.load rfl rfl rfl (Row.cell (by assumption) (by rfl)) rfl ?_ | refine L.pickT rfl rfl rfl ?_ | refine L.pickF rfl rfl rfl ?_ | refine L.notDec rfl rfl ?_ | refine L.not rfl rfl ?_ | refine L.convSame rfl rfl rfl (wrap_i64 (by omega)) rfl ?_)
    | (show L _ _ _ _ _ (⟨_, _, _, _, _, some _⟩ :: _) _ _; first | refine L.guard rfl rfl ?_ | refine L.guard_not rfl rfl rfl ?_)
    | refine L.nil ?_
    | (show N _ _ _ _ _; first | refine N.then_normal ?_ | refine N.wp ?_ | refine N.then_ret ?_ | refine N.block_normal ?_ | refine N.block_ret ?_ | refine N.then_exit ?_ | refine N.block_same ?_ | refine N.block_other rfl ?_)
    | (show C _ _ _ _ _ _ _; first | refine C.seq ?_ | refine C.region ?_ | refine C.skip ?_ | refine C.ret ?_ | refine C.block ?_ | refine C.exit ?_ | refine C.tt rfl ?_ | refine C.ff rfl ?_))
  refine C.dec rfl (fun hc => ?_) (fun hc => ?_)
  · have hil : i < (l.take 8).length := by omega
    obtain ⟨b, o, c', hv, _⟩ := hb2.nonnil (by intro e; simp [e] at hil)
    cases hv
    have hx := hb2.at (List.getElem?_eq_getElem hil)
    repeat (first
      | refine L.move rfl rfl ?_
      | refine L.assign rfl rfl ?_
      | (show L _ _ _ _ _ (⟨_, .binOp _ _ _ _ _, _, _, _, none⟩ :: _) _ _; first | (show L _ _ _ _ _ (⟨_, .binOp .add _ _ _ _, _, _, _, none⟩ :: _) _ _; first | refine L.addI rfl rfl (by omega) rfl ?_) | (show L _ _ _ _ _ (⟨_, .binOp .sub _ _ _ _, _, _, _, none⟩ :: _) _ _; first | refine L.subI rfl rfl (by omega) rfl ?_) | (show L _ _ _ _ _ (⟨_, .binOp .mul _ _ _ _, _, _, _, none⟩ :: _) _ _; first | refine L.mulI rfl rfl (by omega) rfl ?_) | (show L _ _ _ _ _ (⟨_, .binOp .eql _ _ _ _, _, _, _, none⟩ :: _) _ _; first | refine L.eql rfl rfl rfl ?_ | refine L.eqlS rfl rfl rfl ?_ | refine L.eqlNil rfl rfl rfl ?_ | refine L.eqlB rfl rfl rfl rfl ?_) | (show L _ _ _ _ _ (⟨_, .binOp .neq _ _ _ _, _, _, _, none⟩ :: _) _ _; first | refine L.neq rfl rfl rfl ?_ | refine L.neqS rfl rfl rfl ?_ | refine L.neqNil rfl rfl rfl ?_ | refine L.neqB rfl rfl rfl rfl ?_) | (show L _ _ _ _ _ (⟨_, .binOp .lss _ _ _ _, _, _, _, none⟩ :: _) _ _; first | refine L.lss rfl rfl rfl ?_) | (show L _ _ _ _ _ (⟨_, .binOp .leq _ _ _ _, _, _, _, none⟩ :: _) _ _; first | refine L.leq rfl rfl rfl ?_) | (show L _ _ _ _ _ (⟨_, .binOp .gtr _ _ _ _, _, _, _, none⟩ :: _) _ _; first | refine L.gtr rfl rfl rfl ?_) | (show L _ _ _ _ _ (⟨_, .binOp .geq _ _ _ _, _, _, _, none⟩ :: _) _ _; first | refine L.geq rfl rfl rfl ?_))
      | (show L _ _ _ _ _ (⟨_, .call _, _, _, _, none⟩ :: _) _ _; first | refine L.len rfl rfl rfl ?_ | refine L.lenStr rfl rfl rfl ?_ | refine L.min rfl rfl rfl ?_ | refine L.max rfl rfl rfl ?_)
      | (show L _ _ _ _ _ (⟨_, _, _, _, _, none⟩ :: _) _ _; first | refine L.extract rfl rfl rfl ?_ | refine L.nilCheck rfl rfl ?_ | refine L.fieldAddr rfl rfl rfl rfl rfl ?_ | refine L.load rfl rfl rfl (by assumption) rfl ?_ | refine L.load rfl rfl rfl (Row.cell (by assumption) (by rfl)) rfl ?_ | refine L.pickT rfl rfl rfl ?_ | refine L.pickF rfl rfl rfl ?_ | refine L.notDec rfl rfl ?_ | refine L.not rfl rfl ?_ | refine L.convSame rfl rfl rfl (wrap_i64 (by omega)) rfl ?_)
      | (show L _ _ _ _ _ (⟨_, _, _, _, _, some _⟩ :: _) _ _; first | refine L.guard rfl rfl ?_ | refine L.guard_not rfl rfl rfl ?_)
      | refine L.nil ?_
      | (show N _ _ _ _ _; first | refine N.then_normal ?_ | refine N.wp ?_ | refine N.then_ret ?_ | refine N.block_normal ?_ | refine N.block_ret ?_ | refine N.then_exit ?_ | refine N.block_same ?_ | refine N.block_other rfl ?_)
      | (show C _ _ _ _ _ _ _; first | refine C.seq ?_ | refine C.region ?_ | refine C.skip ?_ | refine C.ret ?_ | refine C.block ?_ | refine C.exit ?_ | refine C.tt rfl ?_ | refine C.ff rfl ?_))
    refine L.idx1 rfl rfl rfl rfl (by omega) rfl ?_
    repeat (first
      | refine L.move rfl rfl ?_
      | refine L.assign rfl rfl ?_
      | (show L _ _ _ _ _ (⟨_, .binOp _ _ _ _ _, _, _, _, none⟩ :: _) _ _; first | (show L _ _ _ _ _ (⟨_, .binOp .add _ _ _ _, _, _, _, none⟩ :: _) _ _; first | refine L.addI rfl rfl (by omega) rfl ?_) | (show L _ _ _ _ _ (⟨_, .binOp .sub _ _ _ _, _, _, _, none⟩ :: _) _ _; first | refine L.subI rfl rfl (by omega) rfl ?_) | (show L _ _ _ _ _ (⟨_, .binOp .mul _ _ _ _, _, _, _, none⟩ :: _) _ _; first | refine L.mulI rfl rfl (by omega) rfl ?_) | (show L _ _ _ _ _ (⟨_, .binOp .eql _ _ _ _, _, _, _, none⟩ :: _) _ _; first | refine L.eql rfl rfl rfl ?_ | refine L.eqlS rfl rfl rfl ?_ | refine L.eqlNil rfl rfl rfl ?_ | refine L.eqlB rfl rfl rfl rfl ?_) | (show L _ _ _ _ _ (⟨_, .binOp .neq _ _ _ _, _, _, _, none⟩ :: _) _ _; first | refine L.neq rfl rfl rfl ?_ | refine L.neqS rfl rfl rfl ?_ | refine L.neqNil rfl rfl rfl ?_ | refine L.neqB rfl rfl rfl rfl ?_) | (show L _ _ _ _ _ (⟨_, .binOp .lss _ _ _ _, _, _, _, none⟩ :: _) _ _; first | refine L.lss rfl rfl rfl ?_) | (show L _ _ _ _ _ (⟨_, .binOp .leq _ _ _ _, _, _, _, none⟩ :: _) _ _; first | refine L.leq rfl rfl rfl ?_) | (show L _ _ _ _ _ (⟨_, .binOp .gtr _ _ _ _, _, _, _, none⟩ :: _) _ _; first | refine L.gtr rfl rfl rfl ?_) | (show L _ _ _ _ _ (⟨_, .binOp .geq _ _ _ _, _, _, _, none⟩ :: _) _ _; first | refine L.geq rfl rfl rfl ?_))
      | (show L _ _ _ _ _ (⟨_, .call _, _, _, _, none⟩ :: _) _ _; first | refine L.len rfl rfl rfl ?_ | refine L.lenStr rfl rfl rfl ?_ | refine L.min rfl rfl rfl ?_ | refine L.max rfl rfl rfl ?_)
      | (show L _ _ _ _ _ (⟨_, _, _, _, _, none⟩ :: _) _ _; first | refine L.extract rfl rfl rfl ?_ | refine L.nilCheck rfl rfl ?_ | refine L.fieldAddr rfl rfl rfl rfl rfl ?_ | refine L.load rfl rfl rfl (by assumption) rfl ?_ | refine L.load rfl rfl rfl (Row.cell (by assumption) (by rfl)) rfl ?_ | refine L.pickT rfl rfl rfl ?_ | refine L.pickF rfl rfl rfl ?_ | refine L.notDec rfl rfl ?_ | refine L.not rfl rfl ?_ | refine L.convSame rfl rfl rfl (wrap_i64 (by omega)) rfl ?_)
      | (show L _ _ _ _ _ (⟨_, _, _, _, _, some _⟩ :: _) _ _; first | refine L.guard rfl rfl ?_ | refine L.guard_not rfl rfl rfl ?_)
      | refine L.nil ?_
      | (show N _ _ _ _ _; first | refine N.then_normal ?_ | refine N.wp ?_ | refine N.then_ret ?_ | refine N.block_normal ?_ | refine N.block_ret ?_ | refine N.then_exit ?_ | refine N.block_same ?_ | refine N.block_other rfl ?_)
      | (show C _ _ _ _ _ _ _; first | refine C.seq ?_ | refine C.region ?_ | refine C.skip ?_ | refine C.ret ?_ | refine C.block ?_ | refine C.exit ?_ | refine C.tt rfl ?_ | refine C.ff rfl ?_))
    have hx2 : (octSeq l little)[i]? = some (octSeq l little)[i] := List.getElem?_eq_getElem (by omega)
    refine C.late1 (env0 := [(0, _), (1, _), (5, _), (14, _), (15, _), (6, _)]) 7 (fun v h' => v = u8 (octSeq l little)[i] ∧ h = h') (by repeat (first | exact trivial | refine Sub.cons rfl ?_)) ?_ ?_
    · cases little
      · repeat (first
          | refine L.move rfl rfl ?_
          | refine L.assign rfl rfl ?_
          | (show L _ _ _ _ _ (⟨_, .binOp _ _ _ _ _, _, _, _, none⟩ :: _) _ _; first | (show L _ _ _ _ _ (⟨_, .binOp .add _ _ _ _, _, _, _, none⟩ :: _) _ _; first | refine L.addI rfl rfl (by omega) rfl ?_) | (show L _ _ _ _ _ (⟨_, .binOp .sub _ _ _ _, _, _, _, none⟩ :: _) _ _; first | refine L.subI rfl rfl (by omega) rfl ?_) | (show L _ _ _ _ _ (⟨_, .binOp .mul _ _ _ _, _, _, _, none⟩ :: _) _ _; first | refine L.mulI rfl rfl (by omega) rfl ?_) | (show L _ _ _ _ _ (⟨_, .binOp .eql _ _ _ _, _, _, _, none⟩ :: _) _ _; first | refine L.eql rfl rfl rfl ?_ | refine L.eqlS rfl rfl rfl ?_ | refine L.eqlNil rfl rfl rfl ?_ | refine L.eqlB rfl rfl rfl rfl ?_) | (show L _ _ _ _ _ (⟨_, .binOp .neq _ _ _ _, _, _, _, none⟩ :: _) _ _; first | refine L.neq rfl rfl rfl ?_ | refine L.neqS rfl rfl rfl ?_ | refine L.neqNil rfl rfl rfl ?_ | refine L.neqB rfl rfl rfl rfl ?_) | (show L _ _ _ _ _ (⟨_, .binOp .lss _ _ _ _, _, _, _, none⟩ :: _) _ _; first | refine L.lss rfl rfl rfl ?_) | (show L _ _ _ _ _ (⟨_, .binOp .leq _ _ _ _, _, _, _, none⟩ :: _) _ _; first | refine L.leq rfl rfl rfl ?_) | (show L _ _ _ _ _ (⟨_, .binOp .gtr _ _ _ _, _, _, _, none⟩ :: _) _ _; first | refine L.gtr rfl rfl rfl ?_) | (show L _ _ _ _ _ (⟨_, .binOp .geq _ _ _ _, _, _, _, none⟩ :: _) _ _; first | refine L.geq rfl rfl rfl ?_))
          | (show L _ _ _ _ _ (⟨_, .call _, _, _, _, none⟩ :: _) _ _; first | refine L.len rfl rfl rfl ?_ | refine L.lenStr rfl rfl rfl ?_ | refine L.min rfl rfl rfl ?_ | refine L.max rfl rfl rfl ?_)
          | (show L _ _ _ _ _ (⟨_, _, _, _, _, none⟩ :: _) _ _; first | refine L.extract rfl rfl rfl ?_ | refine L.nilCheck rfl rfl ?_ | refine L.fieldAddr rfl rfl rfl rfl rfl ?_ | refine L.load rfl rfl rfl (by assumption) rfl ?_ | refine L.load rfl rfl rfl (Row.cell (by assumption) (by rfl)) rfl ?_ | refine L.pickT rfl rfl rfl ?_ | refine L.pickF rfl rfl rfl ?_ | refine L.notDec rfl rfl ?_ | refine L.not rfl rfl ?_ | refine L.convSame rfl rfl rfl (wrap_i64 (by omega)) rfl ?_)
          | (show L _ _ _ _ _ (⟨_, _, _, _, _, some _⟩ :: _) _ _; first | refine L.guard rfl rfl ?_ | refine L.guard_not rfl rfl rfl ?_)
          | refine L.nil ?_
          | (show N _ _ _ _ _; first | refine N.then_normal ?_ | refine N.wp ?_ | refine N.then_ret ?_ | refine N.block_normal ?_ | refine N.block_ret ?_ | refine N.then_exit ?_ | refine N.block_same ?_ | refine N.block_other rfl ?_)
          | (show C _ _ _ _ _ _ _; first | refine C.seq ?_ | refine C.region ?_ | refine C.skip ?_ | refine C.ret ?_ | refine C.block ?_ | refine C.exit ?_ | refine C.tt rfl ?_ | refine C.ff rfl ?_))
        refine N.cut _ ⟨?_, rfl⟩ (by repeat (first | exact trivial | refine Sub.cons rfl ?_))
        congr 1
      · have hj : (l.take 8).length - 1 - i < (l.take 8).length := by omega
        have hy := hb2.at (List.getElem?_eq_getElem hj)
        have e2 : ((((l.take 8).length : Int) - 1 - (i : Int))).toNat = (l.take 8).length - 1 - i := by omega
        repeat (first
          | refine L.move rfl rfl ?_
          | refine L.assign rfl rfl ?_
          | (show L _ _ _ _ _ (⟨_, .binOp _ _ _ _ _, _, _, _, none⟩ :: _) _ _; first | (show L _ _ _ _ _ (⟨_, .binOp .add _ _ _ _, _, _, _, none⟩ :: _) _ _; first | refine L.addI rfl rfl (by omega) rfl ?_) | (show L _ _ _ _ _ (⟨_, .binOp .sub _ _ _ _, _, _, _, none⟩ :: _) _ _; first | refine L.subI rfl rfl (by omega) rfl ?_) | (show L _ _ _ _ _ (⟨_, .binOp .mul _ _ _ _, _, _, _, none⟩ :: _) _ _; first | refine L.mulI rfl rfl (by omega) rfl ?_) | (show L _ _ _ _ _ (⟨_, .binOp .eql _ _ _ _, _, _, _, none⟩ :: _) _ _; first | refine L.eql rfl rfl rfl ?_ | refine L.eqlS rfl rfl rfl ?_ | refine L.eqlNil rfl rfl rfl ?_ | refine L.eqlB rfl rfl rfl rfl ?_) | (show L _ _ _ _ _ (⟨_, .binOp .neq _ _ _ _, _, _, _, none⟩ :: _) _ _; first | refine L.neq rfl rfl rfl ?_ | refine L.neqS rfl rfl rfl ?_ | refine L.neqNil rfl rfl rfl ?_ | refine L.neqB rfl rfl rfl rfl ?_) | (show L _ _ _ _ _ (⟨_, .binOp .lss _ _ _ _, _, _, _, none⟩ :: _) _ _; first | refine L.lss rfl rfl rfl ?_) | (show L _ _ _ _ _ (⟨_, .binOp .leq _ _ _ _, _, _, _, none⟩ :: _) _ _; first | refine L.leq rfl rfl rfl ?_) | (show L _ _ _ _ _ (⟨_, .binOp .gtr _ _ _ _, _, _, _, none⟩ :: _) _ _; first | refine L.gtr rfl rfl rfl ?_) | (show L _ _ _ _ _ (⟨_, .binOp .geq _ _ _ _, _, _, _, none⟩ :: _) _ _; first | refine L.geq rfl rfl rfl ?_))
          | (show L _ _ _ _ _ (⟨_, .call _, _, _, _, none⟩ :: _) _ _; first | refine L.len rfl rfl rfl ?_ | refine L.lenStr rfl rfl rfl ?_ | refine L.min rfl rfl rfl ?_ | refine L.max rfl rfl rfl ?_)
          | (show L _ _ _ _ _ (⟨_, _, _, _, _, none⟩ :: _) _ _; first | refine L.extract rfl rfl rfl ?_ | refine L.nilCheck rfl rfl ?_ | refine L.fieldAddr rfl rfl rfl rfl rfl ?_ | refine L.load rfl rfl rfl (by assumption) rfl ?_ | refine L.load rfl rfl rfl (Row.cell (by assumption) (by rfl)) rfl ?_ | refine L.pickT rfl rfl rfl ?_ | refine L.pickF rfl rfl rfl ?_ | refine L.notDec rfl rfl ?_ | refine L.not rfl rfl ?_ | refine L.convSame rfl rfl rfl (wrap_i64 (by omega)) rfl ?_)
          | (show L _ _ _ _ _ (⟨_, _, _, _, _, some _⟩ :: _) _ _; first | refine L.guard rfl rfl ?_ | refine L.guard_not rfl rfl rfl ?_)
          | refine L.nil ?_
          | (show N _ _ _ _ _; first | refine N.then_normal ?_ | refine N.wp ?_ | refine N.then_ret ?_ | refine N.block_normal ?_ | refine N.block_ret ?_ | refine N.then_exit ?_ | refine N.block_same ?_ | refine N.block_other rfl ?_)
          | (show C _ _ _ _ _ _ _; first | refine C.seq ?_ | refine C.region ?_ | refine C.skip ?_ | refine C.ret ?_ | refine C.block ?_ | refine C.exit ?_ | refine C.tt rfl ?_ | refine C.ff rfl ?_))
        refine L.idx1 rfl rfl rfl rfl (by omega) rfl ?_
        rw [e2]
        repeat (first
          | refine L.move rfl rfl ?_
          | refine L.assign rfl rfl ?_
          | (show L _ _ _ _ _ (⟨_, .binOp _ _ _ _ _, _, _, _, none⟩ :: _) _ _; first | (show L _ _ _ _ _ (⟨_, .binOp .add _ _ _ _, _, _, _, none⟩ :: _) _ _; first | refine L.addI rfl rfl (by omega) rfl ?_) | (show L _ _ _ _ _ (⟨_, .binOp .sub _ _ _ _, _, _, _, none⟩ :: _) _ _; first | refine L.subI rfl rfl (by omega) rfl ?_) | (show L _ _ _ _ _ (⟨_, .binOp .mul _ _ _ _, _, _, _, none⟩ :: _) _ _; first | refine L.mulI rfl rfl (by omega) rfl ?_) | (show L _ _ _ _ _ (⟨_, .binOp .eql _ _ _ _, _, _, _, none⟩ :: _) _ _; first | refine L.eql rfl rfl rfl ?_ | refine L.eqlS rfl rfl rfl ?_ | refine L.eqlNil rfl rfl rfl ?_ | refine L.eqlB rfl rfl rfl rfl ?_) | (show L _ _ _ _ _ (⟨_, .binOp .neq _ _ _ _, _, _, _, none⟩ :: _) _ _; first | refine L.neq rfl rfl rfl ?_ | refine L.neqS rfl rfl rfl ?_ | refine L.neqNil rfl rfl rfl ?_ | refine L.neqB rfl rfl rfl rfl ?_) | (show L _ _ _ _ _ (⟨_, .binOp .lss _ _ _ _, _, _, _, none⟩ :: _) _ _; first | refine L.lss rfl rfl rfl ?_) | (show L _ _ _ _ _ (⟨_, .binOp .leq _ _ _ _, _, _, _, none⟩ :: _) _ _; first | refine L.leq rfl rfl rfl ?_) | (show L _ _ _ _ _ (⟨_, .binOp .gtr _ _ _ _, _, _, _, none⟩ :: _) _ _; first | refine L.gtr rfl rfl rfl ?_) | (show L _ _ _ _ _ (⟨_, .binOp .geq _ _ _ _, _, _, _, none⟩ :: _) _ _; first | refine L.geq rfl rfl rfl ?_))
          | (show L _ _ _ _ _ (⟨_, .call _, _, _, _, none⟩ :: _) _ _; first | refine L.len rfl rfl rfl ?_ | refine L.lenStr rfl rfl rfl ?_ | refine L.min rfl rfl rfl ?_ | refine L.max rfl rfl rfl ?_)
          | (show L _ _ _ _ _ (⟨_, _, _, _, _, none⟩ :: _) _ _; first | refine L.extract rfl rfl rfl ?_ | refine L.nilCheck rfl rfl ?_ | refine L.fieldAddr rfl rfl rfl rfl rfl ?_ | refine L.load rfl rfl rfl (by assumption) rfl ?_ | refine L.load rfl rfl rfl (Row.cell (by assumption) (by rfl)) rfl ?_ | refine L.pickT rfl rfl rfl ?_ | refine L.pickF rfl rfl rfl ?_ | refine L.notDec rfl rfl ?_ | refine L.not rfl rfl ?_ | refine L.convSame rfl rfl rfl (wrap_i64 (by omega)) rfl ?_)
          | (show L _ _ _ _ _ (⟨_, _, _, _, _, some _⟩ :: _) _ _; first | refine L.guard rfl rfl ?_ | refine L.guard_not rfl rfl rfl ?_)
          | refine L.nil ?_
          | (show N _ _ _ _ _; first | refine N.then_normal ?_ | refine N.wp ?_ | refine N.then_ret ?_ | refine N.block_normal ?_ | refine N.block_ret ?_ | refine N.then_exit ?_ | refine N.block_same ?_ | refine N.block_other rfl ?_)
          | (show C _ _ _ _ _ _ _; first | refine C.seq ?_ | refine C.region ?_ | refine C.skip ?_ | refine C.ret ?_ | refine C.block ?_ | refine C.exit ?_ | refine C.tt rfl ?_ | refine C.ff rfl ?_))
        refine N.cut _ ⟨?_, rfl⟩ (by repeat (first | exact trivial | refine Sub.cons rfl ?_))
        congr 1
        simp [octSeq]
    rintro _ _ ⟨rfl, rfl⟩
    have h8 := hle i
    have hlt : num ((octSeq l little).take i) < 72057594037927936 := Nat.lt_of_lt_of_le h8 (Nat.le_trans (Nat.pow_le_pow_right (by omega) (show i ≤ 7 by omega)) (by decide))
    repeat (first
      | refine L.move rfl rfl ?_
      | refine L.assign rfl rfl ?_
      | (show L _ _ _ _ _ (⟨_, .binOp _ _ _ _ _, _, _, _, none⟩ :: _) _ _; first | (show L _ _ _ _ _ (⟨_, .binOp .add _ _ _ _, _, _, _, none⟩ :: _) _ _; first | refine L.addI rfl rfl (by omega) rfl ?_) | (show L _ _ _ _ _ (⟨_, .binOp .sub _ _ _ _, _, _, _, none⟩ :: _) _ _; first | refine L.subI rfl rfl (by omega) rfl ?_) | (show L _ _ _ _ _ (⟨_, .binOp .mul _ _ _ _, _, _, _, none⟩ :: _) _ _; first | refine L.mulI rfl rfl (by omega) rfl ?_) | (show L _ _ _ _ _ (⟨_, .binOp .eql _ _ _ _, _, _, _, none⟩ :: _) _ _; first | refine L.eql rfl rfl rfl ?_ | refine L.eqlS rfl rfl rfl ?_ | refine L.eqlNil rfl rfl rfl ?_ | refine L.eqlB rfl rfl rfl rfl ?_) | (show L _ _ _ _ _ (⟨_, .binOp .neq _ _ _ _, _, _, _, none⟩ :: _) _ _; first | refine L.neq rfl rfl rfl ?_ | refine L.neqS rfl rfl rfl ?_ | refine L.neqNil rfl rfl rfl ?_ | refine L.neqB rfl rfl rfl rfl ?_) | (show L _ _ _ _ _ (⟨_, .binOp .lss _ _ _ _, _, _, _, none⟩ :: _) _ _; first | refine L.lss rfl rfl rfl ?_) | (show L _ _ _ _ _ (⟨_, .binOp .leq _ _ _ _, _, _, _, none⟩ :: _) _ _; first | refine L.leq rfl rfl rfl ?_) | (show L _ _ _ _ _ (⟨_, .binOp .gtr _ _ _ _, _, _, _, none⟩ :: _) _ _; first | refine L.gtr rfl rfl rfl ?_) | (show L _ _ _ _ _ (⟨_, .binOp .geq _ _ _ _, _, _, _, none⟩ :: _) _ _; first | refine L.geq rfl rfl rfl ?_))
      | (show L _ _ _ _ _ (⟨_, .call _, _, _, _, none⟩ :: _) _ _; first | refine L.len rfl rfl rfl ?_ | refine L.lenStr rfl rfl rfl ?_ | refine L.min rfl rfl rfl ?_ | refine L.max rfl rfl rfl ?_)
      | (show L _ _ _ _ _ (⟨_, _, _, _, _, none⟩ :: _) _ _; first | refine L.extract rfl rfl rfl ?_ | refine L.nilCheck rfl rfl ?_ | refine L.fieldAddr rfl rfl rfl rfl rfl ?_ | refine L.load rfl rfl rfl (by assumption) rfl ?_ | refine L.load rfl rfl rfl (Row.cell (by assumption) (by rfl)) rfl ?_ | refine L.pickT rfl rfl rfl ?_ | refine L.pickF rfl rfl rfl ?_ | refine L.notDec rfl rfl ?_ | refine L.not rfl rfl ?_ | refine L.convSame rfl rfl rfl (wrap_i64 (by omega)) rfl ?_)
      | (show L _ _ _ _ _ (⟨_, _, _, _, _, some _⟩ :: _) _ _; first | refine L.guard rfl rfl ?_ | refine L.guard_not rfl rfl rfl ?_)
      | refine L.nil ?_
      | (show N _ _ _ _ _; first | refine N.then_normal ?_ | refine N.wp ?_ | refine N.then_ret ?_ | refine N.block_normal ?_ | refine N.block_ret ?_ | refine N.then_exit ?_ | refine N.block_same ?_ | refine N.block_other rfl ?_)
      | (show C _ _ _ _ _ _ _; first | refine C.seq ?_ | refine C.region ?_ | refine C.skip ?_ | refine C.ret ?_ | refine C.block ?_ | refine C.exit ?_ | refine C.tt rfl ?_ | refine C.ff rfl ?_))
    refine L.shlU (b := 8) rfl rfl (by omega) rfl ?_
    have hmod : num ((octSeq l little).take i) * 2 ^ 8 % 18446744073709551616 = num ((octSeq l little).take i) * 2 ^ 8 := Nat.mod_eq_of_lt (by omega)
    rw [hmod]
    repeat (first
      | refine L.move rfl rfl ?_
      | refine L.assign rfl rfl ?_
      | (show L _ _ _ _ _ (⟨_, .binOp _ _ _ _ _, _, _, _, none⟩ :: _) _ _; first | (show L _ _ _ _ _ (⟨_, .binOp .add _ _ _ _, _, _, _, none⟩ :: _) _ _; first | refine L.addI rfl rfl (by omega) rfl ?_) | (show L _ _ _ _ _ (⟨_, .binOp .sub _ _ _ _, _, _, _, none⟩ :: _) _ _; first | refine L.subI rfl rfl (by omega) rfl ?_) | (show L _ _ _ _ _ (⟨_, .binOp .mul _ _ _ _, _, _, _, none⟩ :: _) _ _; first | refine L.mulI rfl rfl (by omega) rfl ?_) | (show L _ _ _ _ _ (⟨_, .binOp .eql _ _ _ _, _, _, _, none⟩ :: _) _ _; first | refine L.eql rfl rfl rfl ?_ | refine L.eqlS rfl rfl rfl ?_ | refine L.eqlNil rfl rfl rfl ?_ | refine L.eqlB rfl rfl rfl rfl ?_) | (show L _ _ _ _ _ (⟨_, .binOp .neq _ _ _ _, _, _, _, none⟩ :: _) _ _; first | refine L.neq rfl rfl rfl ?_ | refine L.neqS rfl rfl rfl ?_ | refine L.neqNil rfl rfl rfl ?_ | refine L.neqB rfl rfl rfl rfl ?_) | (show L _ _ _ _ _ (⟨_, .binOp .lss _ _ _ _, _, _, _, none⟩ :: _) _ _; first | refine L.lss rfl rfl rfl ?_) | (show L _ _ _ _ _ (⟨_, .binOp .leq _ _ _ _, _, _, _, none⟩ :: _) _ _; first | refine L.leq rfl rfl rfl ?_) | (show L _ _ _ _ _ (⟨_, .binOp .gtr _ _ _ _, _, _, _, none⟩ :: _) _ _; first | refine L.gtr rfl rfl rfl ?_) | (show L _ _ _ _ _ (⟨_, .binOp .geq _ _ _ _, _, _, _, none⟩ :: _) _ _; first | refine L.geq rfl rfl rfl ?_))
      | (show L _ _ _ _ _ (⟨_, .call _, _, _, _, none⟩ :: _) _ _; first | refine L.len rfl rfl rfl ?_ | refine L.lenStr rfl rfl rfl ?_ | refine L.min rfl rfl rfl ?_ | refine L.max rfl rfl rfl ?_)
      | (show L _ _ _ _ _ (⟨_, _, _, _, _, none⟩ :: _) _ _; first | refine L.extract rfl rfl rfl ?_ | refine L.nilCheck rfl rfl ?_ | refine L.fieldAddr rfl rfl rfl rfl rfl ?_ | refine L.load rfl rfl rfl (by assumption) rfl ?_ | refine L.load rfl rfl rfl (Row.cell (by assumption) (by rfl)) rfl ?_ | refine L.pickT rfl rfl rfl ?_ | refine L.pickF rfl rfl rfl ?_ | refine L.notDec rfl rfl ?_ | refine L.not rfl rfl ?_ | refine L.convSame rfl rfl rfl (wrap_i64 (by omega)) rfl ?_)
      | (show L _ _ _ _ _ (⟨_, _, _, _, _, some _⟩ :: _) _ _; first | refine L.guard rfl rfl ?_ | refine L.guard_not rfl rfl rfl ?_)
      | refine L.nil ?_
      | (show N _ _ _ _ _; first | refine N.then_normal ?_ | refine N.wp ?_ | refine N.then_ret ?_ | refine N.block_normal ?_ | refine N.block_ret ?_ | refine N.then_exit ?_ | refine N.block_same ?_ | refine N.block_other rfl ?_)
      | (show C _ _ _ _ _ _ _; first | refine C.seq ?_ | refine C.region ?_ | refine C.skip ?_ | refine C.ret ?_ | refine C.block ?_ | refine C.exit ?_ | refine C.tt rfl ?_ | refine C.ff rfl ?_))
    have hc256 := (octSeq l little)[i].toNat_lt
    refine L.convSame (k := .u64) rfl rfl rfl (by rw [wrap_u64_nat]; congr 1; omega) rfl ?_
    refine L.orU rfl rfl rfl (by simp [IntKind.bits]; omega) (by simp [IntKind.bits]; omega) rfl ?_
    rw [or_low]
    repeat (first
      | refine L.move rfl rfl ?_
      | refine L.assign rfl rfl ?_
      | (show L _ _ _ _ _ (⟨_, .binOp _ _ _ _ _, _, _, _, none⟩ :: _) _ _; first | (show L _ _ _ _ _ (⟨_, .binOp .add _ _ _ _, _, _, _, none⟩ :: _) _ _; first | refine L.addI rfl rfl (by omega) rfl ?_) | (show L _ _ _ _ _ (⟨_, .binOp .sub _ _ _ _, _, _, _, none⟩ :: _) _ _; first | refine L.subI rfl rfl (by omega) rfl ?_) | (show L _ _ _ _ _ (⟨_, .binOp .mul _ _ _ _, _, _, _, none⟩ :: _) _ _; first | refine L.mulI rfl rfl (by omega) rfl ?_) | (show L _ _ _ _ _ (⟨_, .binOp .eql _ _ _ _, _, _, _, none⟩ :: _) _ _; first | refine L.eql rfl rfl rfl ?_ | refine L.eqlS rfl rfl rfl ?_ | refine L.eqlNil rfl rfl rfl ?_ | refine L.eqlB rfl rfl rfl rfl ?_) | (show L _ _ _ _ _ (⟨_, .binOp .neq _ _ _ _, _, _, _, none⟩ :: _) _ _; first | refine L.neq rfl rfl rfl ?_ | refine L.neqS rfl rfl rfl ?_ | refine L.neqNil rfl rfl rfl ?_ | refine L.neqB rfl rfl rfl rfl ?_) | (show L _ _ _ _ _ (⟨_, .binOp .lss _ _ _ _, _, _, _, none⟩ :: _) _ _; first | refine L.lss rfl rfl rfl ?_) | (show L _ _ _ _ _ (⟨_, .binOp .leq _ _ _ _, _, _, _, none⟩ :: _) _ _; first | refine L.leq rfl rfl rfl ?_) | (show L _ _ _ _ _ (⟨_, .binOp .gtr _ _ _ _, _, _, _, none⟩ :: _) _ _; first | refine L.gtr rfl rfl rfl ?_) | (show L _ _ _ _ _ (⟨_, .binOp .geq _ _ _ _, _, _, _, none⟩ :: _) _ _; first | refine L.geq rfl rfl rfl ?_))
      | (show L _ _ _ _ _ (⟨_, .call _, _, _, _, none⟩ :: _) _ _; first | refine L.len rfl rfl rfl ?_ | refine L.lenStr rfl rfl rfl ?_ | refine L.min rfl rfl rfl ?_ | refine L.max rfl rfl rfl ?_)
      | (show L _ _ _ _ _ (⟨_, _, _, _, _, none⟩ :: _) _ _; first | refine L.extract rfl rfl rfl ?_ | refine L.nilCheck rfl rfl ?_ | refine L.fieldAddr rfl rfl rfl rfl rfl ?_ | refine L.load rfl rfl rfl (by assumption) rfl ?_ | refine L.load rfl rfl rfl (Row.cell (by assumption) (by rfl)) rfl ?_ | refine L.pickT rfl rfl rfl ?_ | refine L.pickF rfl rfl rfl ?_ | refine L.notDec rfl rfl ?_ | refine L.not rfl rfl ?_ | refine L.convSame rfl rfl rfl (wrap_i64 (by omega)) rfl ?_)
      | (show L _ _ _ _ _ (⟨_, _, _, _, _, some _⟩ :: _) _ _; first | refine L.guard rfl rfl ?_ | refine L.guard_not rfl rfl rfl ?_)
      | refine L.nil ?_
      | (show N _ _ _ _ _; first | refine N.then_normal ?_ | refine N.wp ?_ | refine N.then_ret ?_ | refine N.block_normal ?_ | refine N.block_ret ?_ | refine N.then_exit ?_ | refine N.block_same ?_ | refine N.block_other rfl ?_)
      | (show C _ _ _ _ _ _ _; first | refine C.seq ?_ | refine C.region ?_ | refine C.skip ?_ | refine C.ret ?_ | refine C.block ?_ | refine C.exit ?_ | refine C.tt rfl ?_ | refine C.ff rfl ?_))
    refine N.round (i + 1) ⟨by omega, rfl⟩ (by omega) (by refine ⟨rfl, rfl, ?_, rfl, rfl, trivial⟩; rw [take_snoc _ _ _ hx2, num_snoc]; rfl)
  · repeat (first
      | refine L.move rfl rfl ?_
      | refine L.assign rfl rfl ?_
      | (show L _ _ _ _ _ (⟨_, .binOp _ _ _ _ _, _, _, _, none⟩ :: _) _ _; first | (show L _ _ _ _ _ (⟨_, .binOp .add _ _ _ _, _, _, _, none⟩ :: _) _ _; first | refine L.addI rfl rfl (by omega) rfl ?_) | (show L _ _ _ _ _ (⟨_, .binOp .sub _ _ _ _, _, _, _, none⟩ :: _) _ _; first | refine L.subI rfl rfl (by omega) rfl ?_) | (show L _ _ _ _ _ (⟨_, .binOp .mul _ _ _ _, _, _, _, none⟩ :: _) _ _; first | refine L.mulI rfl rfl (by omega) rfl ?_) | (show L _ _ _ _ _ (⟨_, .binOp .eql _ _ _ _, _, _, _, none⟩ :: _) _ _; first | refine L.eql rfl rfl rfl ?_ | refine L.eqlS rfl rfl rfl ?_ | refine L.eqlNil rfl rfl rfl ?_ | refine L.eqlB rfl rfl rfl rfl ?_) | (show L _ _ _ _ _ (⟨_, .binOp .neq _ _ _ _, _, _, _, none⟩ :: _) _ _; first | refine L.neq rfl rfl rfl ?_ | refine L.neqS rfl rfl rfl ?_ | refine L.neqNil rfl rfl rfl ?_ | refine L.neqB rfl rfl rfl rfl ?_) | (show L _ _ _ _ _ (⟨_, .binOp .lss _ _ _ _, _, _, _, none⟩ :: _) _ _; first | refine L.lss rfl rfl rfl ?_) | (show L _ _ _ _ _ (⟨_, .binOp .leq _ _ _ _, _, _, _, none⟩ :: _) _ _; first | refine L.leq rfl rfl rfl ?_) | (show L _ _ _ _ _ (⟨_, .binOp .gtr _ _ _ _, _, _, _, none⟩ :: _) _ _; first | refine L.gtr rfl rfl rfl ?_) | (show L _ _ _ _ _ (⟨_, .binOp .geq _ _ _ _, _, _, _, none⟩ :: _) _ _; first | refine L.geq rfl rfl rfl ?_))
      | (show L _ _ _ _ _ (⟨_, .call _, _, _, _, none⟩ :: _) _ _; first | refine L.len rfl rfl rfl ?_ | refine L.lenStr rfl rfl rfl ?_ | refine L.min rfl rfl rfl ?_ | refine L.max rfl rfl rfl ?_)
      | (show L _ _ _ _ _ (⟨_, _, _, _, _, none⟩ :: _) _ _; first | refine L.extract rfl rfl rfl ?_ | refine L.nilCheck rfl rfl ?_ | refine L.fieldAddr rfl rfl rfl rfl rfl ?_ | refine L.load rfl rfl rfl (by assumption) rfl ?_ | refine L.load rfl rfl rfl (Row.cell (by assumption) (by rfl)) rfl ?_ | refine L.pickT rfl rfl rfl ?_ | refine L.pickF rfl rfl rfl ?_ | refine L.notDec rfl rfl ?_ | refine L.not rfl rfl ?_ | refine L.convSame rfl rfl rfl (wrap_i64 (by omega)) rfl ?_)
      | (show L _ _ _ _ _ (⟨_, _, _, _, _, some _⟩ :: _) _ _; first | refine L.guard rfl rfl ?_ | refine L.guard_not rfl rfl rfl ?_)
      | refine L.nil ?_
      | (show N _ _ _ _ _; first | refine N.then_normal ?_ | refine N.wp ?_ | refine N.then_ret ?_ | refine N.block_normal ?_ | refine N.block_ret ?_ | refine N.then_exit ?_ | refine N.block_same ?_ | refine N.block_other rfl ?_)
      | (show C _ _ _ _ _ _ _; first | refine C.seq ?_ | refine C.region ?_ | refine C.skip ?_ | refine C.ret ?_ | refine C.block ?_ | refine C.exit ?_ | refine C.tt rfl ?_ | refine C.ff rfl ?_))
    refine N.ret1 rfl rfl ⟨?_, rfl⟩
    unfold octOf
    rw [List.take_of_length_le (by omega)]

end Go.Proofs.Ytpajhgnkagifbaa
