/- Contracts of package octet, second part: numbers, a writer. -/
import Derived.Test.YtniofdklhlbphaaOc1
namespace Go.Proofs.Ytniofdklhlbphaa
open Go Go.E
set_option linter.unusedVariables false
set_option maxRecDepth 10000
section
variable {ro : Ro} {own : Chs} {K : Value → Ro → Chs → Prop} {f : Chunk → Chs}
theorem width_ok {n : Int} (hk : K (.bool (decide (1 ≤ n ∧ n ≤ 8))) ro own) : CallOk Try.prog 48 #[.int .i64 n] ro own K := by
  refine CallOk.intro (args := [_]) (rs := [_]) T_ok Try.func48 Try.call48 rfl rfl (by kernel_rfl) rfl rfl ?_
  repeat (first
    | (show _ ∧ _; exact ⟨rfl, rfl, rfl⟩)
    | refine wkG ?_
    | (show OpOk _ _ _ _ _ _ _; first | refine opB (fun b => ?_) | refine opA (fun a' c' hc1 hc2 => ?_))
    | (show GJ _ _ _ _ _ _ _; first | (apply GJ.and; exact rfl; intro hg) | (apply GJ.or; exact rfl; intro hg) | refine GJ.t omAuto ?_ | refine GJ.f omAuto ?_ | refine GJ.ft omAuto ?_ | refine GJ.ff omAuto ?_))
  refine Wk.val hk (congrArg Value.bool ?_)
  simp
def mostN (n : Int) : Nat := if 1 ≤ n ∧ n ≤ 8 then 2 ^ (8 * n.toNat) - 1 else 0
theorem most_ok {n : Int} (hk : K (.int .u64 (mostN n)) ro own) : CallOk Try.prog 28 #[.int .i64 n] ro own K := by
  refine CallOk.intro (args := [_]) (rs := [_]) T_ok Try.func28 Try.call28 rfl rfl (by kernel_rfl) rfl rfl ?_
  repeat (first
    | (show _ ∧ _; exact ⟨rfl, rfl, rfl⟩)
    | refine wkG ?_
    | (show OpOk _ _ _ _ _ _ _; first | refine opB (fun b => ?_) | refine opA (fun a' c' hc1 hc2 => ?_))
    | (show GJ _ _ _ _ _ _ _; first | (apply GJ.and; exact rfl; intro hg) | (apply GJ.or; exact rfl; intro hg) | refine GJ.t omAuto ?_ | refine GJ.f omAuto ?_ | refine GJ.ft omAuto ?_ | refine GJ.ff omAuto ?_))
  refine width_ok ?_
  repeat (first
    | (show _ ∧ _; exact ⟨rfl, rfl, rfl⟩)
    | refine wkG ?_
    | (show OpOk _ _ _ _ _ _ _; first | refine opB (fun b => ?_) | refine opA (fun a' c' hc1 hc2 => ?_))
    | (show GJ _ _ _ _ _ _ _; first | (apply GJ.and; exact rfl; intro hg) | (apply GJ.or; exact rfl; intro hg) | refine GJ.t omAuto ?_ | refine GJ.f omAuto ?_ | refine GJ.ft omAuto ?_ | refine GJ.ff omAuto ?_))
  refine Br.cases (fun hc => ?_) (fun hc => ?_)
  · repeat (first
      | (show _ ∧ _; exact ⟨rfl, rfl, rfl⟩)
      | refine wkG ?_
      | (show OpOk _ _ _ _ _ _ _; first | refine opB (fun b => ?_) | refine opA (fun a' c' hc1 hc2 => ?_))
      | (show GJ _ _ _ _ _ _ _; first | (apply GJ.and; exact rfl; intro hg) | (apply GJ.or; exact rfl; intro hg) | refine GJ.t omAuto ?_ | refine GJ.f omAuto ?_ | refine GJ.ft omAuto ?_ | refine GJ.ff omAuto ?_))
    refine Wk.val hk (congrArg (Value.int .u64) ?_)
    have : ¬ (1 ≤ n ∧ n ≤ 8) := by simpa using hc
    simp [mostN, this]
  · have hc : 1 ≤ n ∧ n ≤ 8 := by simpa using hc
    repeat (first
      | (show _ ∧ _; exact ⟨rfl, rfl, rfl⟩)
      | refine wkG ?_
      | (show OpOk _ _ _ _ _ _ _; first | refine opB (fun b => ?_) | refine opA (fun a' c' hc1 hc2 => ?_))
      | (show GJ _ _ _ _ _ _ _; first | (apply GJ.and; exact rfl; intro hg) | (apply GJ.or; exact rfl; intro hg) | refine GJ.t omAuto ?_ | refine GJ.f omAuto ?_ | refine GJ.ft omAuto ?_ | refine GJ.ff omAuto ?_))
    refine Wk.val hk (congrArg (Value.int .u64) ?_)
    obtain ⟨m, rfl⟩ := Int.eq_ofNat_of_zero_le (show 0 ≤ n by omega)
    simp only [mostN, hc, and_self, if_true]
    rcases (show m = 1 ∨ m = 2 ∨ m = 3 ∨ m = 4 ∨ m = 5 ∨ m = 6 ∨ m = 7 ∨ m = 8 by omega) with h | h | h | h | h | h | h | h <;> subst h <;> decide
/-- A number of bytes, the highest first. -/
def beN (l : List UInt8) : Nat := l.foldl (fun n c => n * 256 + c.toNat) 0
def dirB (little : Bool) (l : List UInt8) : List UInt8 := if little then l.reverse else l
theorem beN_snoc (l : List UInt8) (c : UInt8) : beN (l ++ [c]) = beN l * 256 + c.toNat := by simp [beN]
theorem beN_lt (l : List UInt8) : beN l < 256 ^ l.length := by
  have key : ∀ (l : List UInt8) (acc : Nat), l.foldl (fun n c => n * 256 + c.toNat) acc < (acc + 1) * 256 ^ l.length := by
    intro l
    induction l with
    | nil => intro acc; simp
    | cons c l ih =>
      intro acc
      have h1 := ih (acc * 256 + c.toNat)
      have h2 := c.toNat_lt
      have h3 : (acc * 256 + c.toNat + 1) * 256 ^ l.length ≤ ((acc + 1) * 256) * 256 ^ l.length := Nat.mul_le_mul (by omega) (Nat.le_refl _)
      rw [List.foldl_cons, List.length_cons, Nat.pow_succ, Nat.mul_comm (256 ^ l.length), ← Nat.mul_assoc]
      omega
  have := key l 0
  simpa [beN] using this
theorem nor2_addc {n m k : Nat} (hn : n < 2 ^ k) : nor2 ((m * 2 ^ k : Nat) : Int) (n : Int) = ((m * 2 ^ k + n : Nat) : Int) := by
  have := nor2_add (m := m) hn
  rw [Nat.add_comm, ← this]
  simp only [nor2, Nat.or_comm]
theorem u8m (x : Nat) : Value.int .u8 ((x : Int) % 256) = u8 (UInt8.ofNat x) := by
  simp [u8]
theorem take_snocB {l : List UInt8} {k : Nat} (h : k < l.length) : l.take (k + 1) = l.take k ++ [l[k]!] := by
  rw [List.take_add_one, List.getElem?_eq_getElem h, List.getElem!_eq_getElem?_getD, List.getElem?_eq_getElem h]; rfl
theorem getRev {l : List UInt8} {i : Nat} (h : i < l.length) : l.reverse[i]! = l[l.length - 1 - i]! := by
  rw [List.getElem!_eq_getElem?_getD, List.getElem!_eq_getElem?_getD, List.getElem?_reverse h]
end
end Go.Proofs.Ytniofdklhlbphaa
