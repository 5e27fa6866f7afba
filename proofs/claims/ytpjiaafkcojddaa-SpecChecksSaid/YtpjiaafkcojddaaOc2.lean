/- Contracts of package octet, second part: numbers, a writer. -/
import Derived.Test.YtpjiaafkcojddaaOc1
namespace Go.Proofs.Ytpjiaafkcojddaa
open Go Go.E
set_option linter.unusedVariables false
set_option maxRecDepth 10000
section
variable {ro : Ro} {own : Chs} {K : Value → Ro → Chs → Prop} {f : Chunk → Chs}
theorem width_ok {n : Int} (hk : K (.bool (decide (1 ≤ n ∧ n ≤ 8))) ro own) : CallOk Try.prog 60 #[.int .i64 n] ro own K := by
  refine CallOk.intro (args := [_]) (rs := [_]) T_ok Try.func60 Try.call60 rfl rfl (by kernel_rfl) rfl rfl ?_
  repeat (first
    | (show _ ∧ _; exact ⟨rfl, rfl, rfl⟩)
    | refine wkG ?_
    | (show OpOk _ _ _ _ _ _ _; first | refine opB (fun b => ?_) | refine opA (fun a' c' hc1 hc2 => ?_))
    | (show GJ _ _ _ _ _ _ _; first | (apply GJ.and; exact rfl; intro hg) | (apply GJ.or; exact rfl; intro hg) | refine GJ.t omAuto ?_ | refine GJ.f omAuto ?_ | refine GJ.ft omAuto ?_ | refine GJ.ff omAuto ?_))
  refine Wk.val hk (congrArg Value.bool ?_)
  simp
def mostN (n : Int) : Nat := if 1 ≤ n ∧ n ≤ 8 then 2 ^ (8 * n.toNat) - 1 else 0
theorem most_ok {n : Int} (hk : K (.int .u64 (mostN n)) ro own) : CallOk Try.prog 55 #[.int .i64 n] ro own K := by
  refine CallOk.intro (args := [_]) (rs := [_]) T_ok Try.func55 Try.call55 rfl rfl (by kernel_rfl) rfl rfl ?_
  repeat (first
    | (show _ ∧ _; exact ⟨rfl, rfl, rfl⟩)
    | refine wkG ?_
    | (show OpOk _ _ _ _ _ _ _; first | refine opB (fun b => ?_) | refine opA (fun a' c' hc1 hc2 => ?_))
    | (show GJ _ _ _ _ _ _ _; first | (apply GJ.and; exact rfl; intro hg) | (apply GJ.or; exact rfl; intro hg) | refine GJ.t omAuto ?_ | refine GJ.f omAuto ?_ | refine GJ.ft omAuto ?_ | refine GJ.ff omAuto ?_))
  refine width_ok ?_
  repeat (first
    | (show _ ∧ _; exact ⟨rfl, rfl, rfl⟩)
    | refine wkG ?_
    | (show OpOk _ _ _ _ _ _ _; first | refine opB (fun b => ?_) | refine opA (fun a' c' hc1 hc2 => ?_))
    | (show GJ _ _ _ _ _ _ _; first | (apply GJ.and; exact rfl; intro hg) | (apply GJ.or; exact rfl; intro hg) | refine GJ.t omAuto ?_ | refine GJ.f omAuto ?_ | refine GJ.ft omAuto ?_ | refine GJ.ff omAuto ?_))
  refine Br.cases (fun hc => ?_) (fun hc => ?_)
  · repeat (first
      | (show _ ∧ _; exact ⟨rfl, rfl, rfl⟩)
      | refine wkG ?_
      | (show OpOk _ _ _ _ _ _ _; first | refine opB (fun b => ?_) | refine opA (fun a' c' hc1 hc2 => ?_))
      | (show GJ _ _ _ _ _ _ _; first | (apply GJ.and; exact rfl; intro hg) | (apply GJ.or; exact rfl; intro hg) | refine GJ.t omAuto ?_ | refine GJ.f omAuto ?_ | refine GJ.ft omAuto ?_ | refine GJ.ff omAuto ?_))
    refine Wk.val hk (congrArg (Value.int .u64) ?_)
    have : ¬ (1 ≤ n ∧ n ≤ 8) := by simpa using hc
    simp [mostN, this]
  · have hc : 1 ≤ n ∧ n ≤ 8 := by simpa using hc
    repeat (first
      | (show _ ∧ _; exact ⟨rfl, rfl, rfl⟩)
      | refine wkG ?_
      | (show OpOk _ _ _ _ _ _ _; first | refine opB (fun b => ?_) | refine opA (fun a' c' hc1 hc2 => ?_))
      | (show GJ _ _ _ _ _ _ _; first | (apply GJ.and; exact rfl; intro hg) | (apply GJ.or; exact rfl; intro hg) | refine GJ.t omAuto ?_ | refine GJ.f omAuto ?_ | refine GJ.ft omAuto ?_ | refine GJ.ff omAuto ?_))
    refine Wk.val hk (congrArg (Value.int .u64) ?_)
    obtain ⟨m, rfl⟩ := Int.eq_ofNat_of_zero_le (show 0 ≤ n by omega)
    simp only [mostN, hc, and_self, if_true]
    rcases (show m = 1 ∨ m = 2 ∨ m = 3 ∨ m = 4 ∨ m = 5 ∨ m = 6 ∨ m = 7 ∨ m = 8 by omega) with h | h | h | h | h | h | h | h <;> subst h <;> decide
/-- A number of bytes, the highest first. -/
def beN (l : List UInt8) : Nat := l.foldl (fun n c => n * 256 + c.toNat) 0
def dirB (little : Bool) (l : List UInt8) : List UInt8 := if little then l.reverse else l
theorem beN_snoc (l : List UInt8) (c : UInt8) : beN (l ++ [c]) = beN l * 256 + c.toNat := by simp [beN]
theorem beN_lt (l : List UInt8) : beN l < 256 ^ l.length := by
  have key : ∀ (l : List UInt8) (acc : Nat), l.foldl (fun n c => n * 256 + c.toNat) acc < (acc + 1) * 256 ^ l.length := by
    intro l
    induction l with
    | nil => intro acc; simp
    | cons c l ih =>
      intro acc
      have h1 := ih (acc * 256 + c.toNat)
      have h2 := c.toNat_lt
      have h3 : (acc * 256 + c.toNat + 1) * 256 ^ l.length ≤ ((acc + 1) * 256) * 256 ^ l.length := Nat.mul_le_mul (by omega) (Nat.le_refl _)
      rw [List.foldl_cons, List.length_cons, Nat.pow_succ, Nat.mul_comm (256 ^ l.length), ← Nat.mul_assoc]
      omega
  have := key l 0
  simpa [beN] using this
theorem nor2_addc {n m k : Nat} (hn : n < 2 ^ k) : nor2 ((m * 2 ^ k : Nat) : Int) (n : Int) = ((m * 2 ^ k + n : Nat) : Int) := by
  have := nor2_add (m := m) hn
  rw [Nat.add_comm, ← this]
  simp only [nor2, Nat.or_comm]
theorem u8m (x : Nat) : Value.int .u8 ((x : Int) % 256) = u8 (UInt8.ofNat x) := by
  simp [u8]
theorem take_snocB {l : List UInt8} {k : Nat} (h : k < l.length) : l.take (k + 1) = l.take k ++ [l[k]!] := by
  rw [List.take_add_one, List.getElem?_eq_getElem h, List.getElem!_eq_getElem?_getD, List.getElem?_eq_getElem h]; rfl
theorem getRev {l : List UInt8} {i : Nat} (h : i < l.length) : l.reverse[i]! = l[l.length - 1 - i]! := by
  rw [List.getElem!_eq_getElem?_getD, List.getElem!_eq_getElem?_getD, List.getElem?_reverse h]
theorem of_ok {a : Option Addr} {n c : Nat} {l : List UInt8} {little : Bool} (hr : Rds ro own a n c 1 (l.map u8)) (hn : n ≤ 8) (hk : K (.int .u64 (beN (dirB little l))) ro own) : CallOk Try.prog 61 #[.slice a n c, .bool little] ro own K := by
  have hl := hr.n1
  have hle := hr.le
  simp at hl
  refine CallOk.intro (args := [_, _]) (rs := [_]) T_ok Try.func61 Try.call61 rfl rfl (by kernel_rfl) rfl rfl ?_
  repeat (first
    | (show _ ∧ _; exact ⟨rfl, rfl, rfl⟩)
    | refine wkG ?_
    | (show OpOk _ _ _ _ _ _ _; first | refine opB (fun b => ?_) | refine opA (fun a' c' hc1 hc2 => ?_))
    | (show GJ _ _ _ _ _ _ _; first | (apply GJ.and; exact rfl; intro hg) | (apply GJ.or; exact rfl; intro hg) | refine GJ.t omAuto ?_ | refine GJ.f omAuto ?_ | refine GJ.ft omAuto ?_ | refine GJ.ff omAuto ?_))
  have hr2 := hr.cutB (lo := 0) (hi := Min.min (n : Int) 8) (by omega)
  have e1 : ((Min.min (n : Int) 8).toNat - Int.toNat 0) = n := by omega
  have hr3 : Rds ro own (cutA a (Int.toNat 0) c 1) n (c - Int.toNat 0) 1 (l.map u8) := by
    rw [e1, Int.toNat_zero, List.drop_zero, List.take_of_length_le (by omega)] at hr2
    exact hr2
  repeat (first
    | (show _ ∧ _; exact ⟨rfl, rfl, rfl⟩)
    | refine wkG ?_
    | (show OpOk _ _ _ _ _ _ _; first | refine opB (fun b => ?_) | refine opA (fun a' c' hc1 hc2 => ?_))
    | (show GJ _ _ _ _ _ _ _; first | (apply GJ.and; exact rfl; intro hg) | (apply GJ.or; exact rfl; intro hg) | refine GJ.t omAuto ?_ | refine GJ.f omAuto ?_ | refine GJ.ft omAuto ?_ | refine GJ.ff omAuto ?_))
  rw [e1]
  have hd : (dirB little l).length = n := by cases little <;> simp [dirB, hl]
  refine LoopOk.at (ι := Nat × Int) Keep.auto (fun (i, y) => [(15, .int .i64 (i : Int)), (5, .int .u64 y)]) (fun (i, y) => own) (fun (i, y) => i ≤ n ∧ y = (beN ((dirB little l).take i) : Nat)) (fun (i, y) => n - i) (0, _) ?_ Sub.auto Sup.auto ?_
  · exact ⟨by omega, by simp [beN]⟩
  rintro ⟨i, y⟩ ⟨i1, rfl⟩
  dsimp only [List.cons_append, List.nil_append]
  repeat (first
    | (show _ ∧ _; exact ⟨rfl, rfl, rfl⟩)
    | refine wkG ?_
    | (show OpOk _ _ _ _ _ _ _; first | refine opB (fun b => ?_) | refine opA (fun a' c' hc1 hc2 => ?_))
    | (show GJ _ _ _ _ _ _ _; first | (apply GJ.and; exact rfl; intro hg) | (apply GJ.or; exact rfl; intro hg) | refine GJ.t omAuto ?_ | refine GJ.f omAuto ?_ | refine GJ.ft omAuto ?_ | refine GJ.ff omAuto ?_))
  refine Br.cases (fun hc => ?_) (fun hc => ?_)
  · have hb := beN_lt ((dirB little l).take i)
    rw [List.length_take, hd, Nat.min_eq_left (by omega)] at hb
    have hb7 : 256 ^ i ≤ 256 ^ 7 := Nat.pow_le_pow_right (by omega) (by omega)
    have hs := take_snocB (l := dirB little l) (k := i) (by omega)
    have fin : ∀ ch : UInt8, (dirB little l)[i]! = ch → nor2 (((beN ((dirB little l).take i) : Nat) : Int) * 2 ^ Int.toNat 8 % 18446744073709551616) (ch.toNat : Int) = ((beN ((dirB little l).take (i + 1)) : Nat) : Int) := fun ch h => by
      have hch := ch.toNat_lt
      have e3 : ((beN ((dirB little l).take i) : Nat) : Int) * 2 ^ Int.toNat 8 % 18446744073709551616 = ((beN ((dirB little l).take i) * 2 ^ 8 : Nat) : Int) := by
        simp only [Int.reduceToNat]; omega
      rw [e3, nor2_addc (by omega), hs, h, beN_snoc]
    repeat (first
      | (show _ ∧ _; exact ⟨rfl, rfl, rfl⟩)
      | refine wkG ?_
      | (show OpOk _ _ _ _ _ _ _; first | refine opB (fun b => ?_) | refine opA (fun a' c' hc1 hc2 => ?_))
      | (show GJ _ _ _ _ _ _ _; first | (apply GJ.and; exact rfl; intro hg) | (apply GJ.or; exact rfl; intro hg) | refine GJ.t omAuto ?_ | refine GJ.f omAuto ?_ | refine GJ.ft omAuto ?_ | refine GJ.ff omAuto ?_))
    refine SeqOk.pass ?_
    cases little
    · repeat (first
        | (show _ ∧ _; exact ⟨rfl, rfl, rfl⟩)
        | refine wkG ?_
        | (show OpOk _ _ _ _ _ _ _; first | refine opB (fun b => ?_) | refine opA (fun a' c' hc1 hc2 => ?_))
        | (show GJ _ _ _ _ _ _ _; first | (apply GJ.and; exact rfl; intro hg) | (apply GJ.or; exact rfl; intro hg) | refine GJ.t omAuto ?_ | refine GJ.f omAuto ?_ | refine GJ.ft omAuto ?_ | refine GJ.ff omAuto ?_))
      refine Wk.id ⟨(i + 1, _), ⟨rfl, ?_⟩, ?_, Sub.auto, Sup.auto⟩
      all_goals try dsimp only
      · refine ⟨by omega, ?_⟩
        simp only [Int.toNat_natCast]
        exact fin _ rfl
      · omega
    · repeat (first
        | (show _ ∧ _; exact ⟨rfl, rfl, rfl⟩)
        | refine wkG ?_
        | (show OpOk _ _ _ _ _ _ _; first | refine opB (fun b => ?_) | refine opA (fun a' c' hc1 hc2 => ?_))
        | (show GJ _ _ _ _ _ _ _; first | (apply GJ.and; exact rfl; intro hg) | (apply GJ.or; exact rfl; intro hg) | refine GJ.t omAuto ?_ | refine GJ.f omAuto ?_ | refine GJ.ft omAuto ?_ | refine GJ.ff omAuto ?_))
      refine Wk.id ⟨(i + 1, _), ⟨rfl, ?_⟩, ?_, Sub.auto, Sup.auto⟩
      all_goals try dsimp only
      · refine ⟨by omega, ?_⟩
        refine fin _ ?_
        show l.reverse[i]! = _
        rw [getRev (by omega)]
        congr 1
        omega
      · omega
  · obtain rfl : i = n := by omega
    repeat (first
      | (show _ ∧ _; exact ⟨rfl, rfl, rfl⟩)
      | refine wkG ?_
      | (show OpOk _ _ _ _ _ _ _; first | refine opB (fun b => ?_) | refine opA (fun a' c' hc1 hc2 => ?_))
      | (show GJ _ _ _ _ _ _ _; first | (apply GJ.and; exact rfl; intro hg) | (apply GJ.or; exact rfl; intro hg) | refine GJ.t omAuto ?_ | refine GJ.f omAuto ?_ | refine GJ.ft omAuto ?_ | refine GJ.ff omAuto ?_))
    refine Wk.val hk (congrArg (Value.int .u64) ?_)
    rw [List.take_of_length_le (by omega)]
end
end Go.Proofs.Ytpjiaafkcojddaa
