/- Contract of crc.Join, whole; the plain law of checksums that are joined. -/
import Derived.Test.YtpjiaafkcojddaaCr9
namespace Go.Proofs.Ytpjiaafkcojddaa
open Go Go.E
set_option linter.unusedVariables false
set_option maxRecDepth 10000
/-- A matrix that takes a remainder so many bits on. -/
def matL (n : Nat) : List Nat := (List.range 32).map fun i => bits n (2 ^ i)
def matV (n : Nat) : List Value := (matL n).map fun x : Nat => Value.int .u32 (x : Int)
theorem matL_len (n : Nat) : (matL n).length = 32 := by simp [matL]
theorem matV_get {n i : Nat} (h : i < 32) : (matV n)[i]? = some (.int .u32 ((bits n (2 ^ i) : Nat) : Int)) := by simp [matV, matL, h]
theorem bits_zero : ∀ n, bits n 0 = 0
  | 0 => rfl
  | n + 1 => by rw [bits, bits_zero n]; rfl
theorem bits_add (x n : Nat) : ∀ m, bits m (bits n x) = bits (m + n) x
  | 0 => by rw [Nat.zero_add]; rfl
  | m + 1 => by rw [bits, bits_add x n m, Nat.add_right_comm]; rfl
/-- The bits below k of a number. -/
theorem mod_succ (x k : Nat) : x % 2 ^ (k + 1) = x % 2 ^ k ^^^ (if x / 2 ^ k % 2 = 1 then 2 ^ k else 0) := by
  apply Nat.eq_of_testBit_eq
  intro j
  have h : (x / 2 ^ k % 2 = 1) ↔ x.testBit k = true := by rw [Nat.testBit_eq_decide_div_mod_eq]; simp
  rw [Nat.testBit_xor, Nat.testBit_mod_two_pow, Nat.testBit_mod_two_pow]
  by_cases hb : x.testBit k = true
  · rw [if_pos (h.2 hb), Nat.testBit_two_pow]
    rcases Nat.lt_trichotomy j k with h1 | h1 | h1
    · simp [h1, show j < k + 1 by omega, show k ≠ j by omega]
    · subst h1; simp [hb]
    · simp [show ¬ j < k by omega, show ¬ j < k + 1 by omega, show k ≠ j by omega]
  · rw [if_neg (fun e => hb (h.1 e)), Nat.zero_testBit]
    rcases Nat.lt_trichotomy j k with h1 | h1 | h1
    · simp [h1, show j < k + 1 by omega]
    · subst h1; simp at hb; simp [hb]
    · simp [show ¬ j < k by omega, show ¬ j < k + 1 by omega]
theorem bits_step (n x k : Nat) : bits n (x % 2 ^ (k + 1)) = bits n (x % 2 ^ k) ^^^ (if x / 2 ^ k % 2 = 1 then bits n (2 ^ k) else 0) := by
  rw [mod_succ, bits_xor]
  split
  · rfl
  · rw [bits_zero]
theorem bits_noughts : ∀ (l : List UInt8) (s t : Nat), crcL (s ^^^ t) l = bits (8 * l.length) s ^^^ crcL t l
  | [], s, t => rfl
  | c :: l, s, t => by
    show crcL (crcB (s ^^^ t) c) l = _
    have h : crcB (s ^^^ t) c = bits 8 s ^^^ crcB t c := by rw [crcB_bits, crcB_bits, Nat.xor_assoc, bits_xor]
    rw [h, bits_noughts l, bits_add, List.length_cons, Nat.mul_add]
    rfl
theorem crcOf_join (l m : List UInt8) : crcOf (l ++ m) = bits (8 * m.length) (crcOf l) ^^^ crcOf m := by
  unfold crcOf
  rw [crcL_append]
  have h := bits_noughts m (crcL 4294967295 l ^^^ 4294967295) 4294967295
  rw [Nat.xor_assoc, Nat.xor_self, Nat.xor_zero] at h
  rw [h, Nat.xor_assoc]
theorem crcOf_nil : crcOf [] = 0 := Nat.xor_self _
def lowB (x k : Nat) : Nat := x % 2 ^ k
theorem lowB_zero (x : Nat) : lowB x 0 = 0 := by rw [lowB, Nat.pow_zero, Nat.mod_one]
theorem lowB_all {x : Nat} (h : x < 4294967296) : lowB x 32 = x := Nat.mod_eq_of_lt h
/-- A remainder behind so many bytes of nought, by halves. -/
theorem bits_halves (x m n k : Nat) (hn : n ≠ 0) : bits (8 * m * n) x = bits (8 * (2 * m) * (n / 2)) (if n % 2 = 1 then bits (8 * m) x else x) := by
  have h : n = 2 * (n / 2) + n % 2 := by omega
  have h2 := Nat.mod_two_eq_zero_or_one n
  have e : 8 * (2 * m) * (n / 2) = 8 * m * (2 * (n / 2)) := by rw [Nat.mul_comm 2 m, ← Nat.mul_assoc, Nat.mul_assoc (8 * m)]
  rw [e]
  generalize 2 * (n / 2) = z at h
  rcases h2 with h2 | h2
  · rw [h2, Nat.add_zero] at h
    subst h
    rw [if_neg (by omega)]
  · rw [h2] at h
    rw [if_pos h2, bits_add]
    rw [h, Nat.mul_add, Nat.mul_one]
section
variable {ro : Ro} {own r : Chs} {K : Value → Ro → Chs → Prop} {g : Chunk → Chs}
theorem times_ok {b x n : Nat} (hx : x < 4294967296) [hb : HasBlk own b 124 (matV n) g] (hk : K (.int .u32 ((bits n x : Nat) : Int)) ro own) : CallOk Try.prog 58 #[ptr' b, .int .u32 x] ro own K := by
  refine CallOk.intro (args := [_, _]) (rs := [_]) T_ok Try.func58 Try.call58 rfl rfl (by kernel_rfl) rfl rfl ?_
  repeat (first
    | (show _ ∧ _; exact ⟨rfl, rfl, rfl⟩)
    | refine wkG ?_
    | (show OpOk _ _ _ _ _ _ _; first | refine opB (fun b => ?_) | refine opA (fun a' c' hc1 hc2 => ?_))
    | (show GJ _ _ _ _ _ _ _; first | (apply GJ.and; exact rfl; intro hg) | (apply GJ.or; exact rfl; intro hg) | refine GJ.t omAuto ?_ | refine GJ.f omAuto ?_ | refine GJ.ft omAuto ?_ | refine GJ.ff omAuto ?_))
  refine LoopOk.at (ι := Nat × Nat) Keep.auto (fun (i, y) => [(7, .int .i64 (i : Int)), (5, .int .u32 (y : Int))]) (fun (i, y) => own) (fun (i, y) => i ≤ 32 ∧ y = bits n (lowB x i)) (fun (i, y) => 32 - i) (0, 0) ?_ Sub.auto Sup.auto ?_
  · exact ⟨by omega, by rw [lowB_zero, bits_zero]⟩
  rintro ⟨i, y⟩ ⟨i1, rfl⟩
  dsimp only [List.cons_append, List.nil_append]
  repeat (first
    | (show _ ∧ _; exact ⟨rfl, rfl, rfl⟩)
    | refine wkG ?_
    | (show OpOk _ _ _ _ _ _ _; first | refine opB (fun b => ?_) | refine opA (fun a' c' hc1 hc2 => ?_))
    | (show GJ _ _ _ _ _ _ _; first | (apply GJ.and; exact rfl; intro hg) | (apply GJ.or; exact rfl; intro hg) | refine GJ.t omAuto ?_ | refine GJ.f omAuto ?_ | refine GJ.ft omAuto ?_ | refine GJ.ff omAuto ?_))
  refine Br.cases (fun hc => ?_) (fun hc => ?_)
  · have hs : bits n (lowB x (i + 1)) = bits n (lowB x i) ^^^ (if x / 2 ^ i % 2 = 1 then bits n (2 ^ i) else 0) := bits_step n x i
    have hlt : bits n (lowB x i) < 4294967296 := bits_lt (Nat.lt_of_le_of_lt (Nat.mod_le _ _) hx) n
    have hp : (2 : Nat) ^ i < 4294967296 := Nat.lt_of_lt_of_le (Nat.pow_lt_pow_right (by omega) (show i < 32 by omega)) (by decide)
    have hlt2 : bits n (2 ^ i) < 4294967296 := bits_lt hp n
    have hget := matV_get (n := n) (i := i) (by omega)
    have hd : x / 2 ^ i ≤ x := Nat.div_le_self _ _
    generalize bits n (lowB x i) = y at hs hlt
    generalize bits n (2 ^ i) = z at hs hlt2 hget
    have e1 : (x : Int) / 2 ^ ((i : Int).toNat) = ((x / 2 ^ i : Nat) : Int) := by simp
    generalize x / 2 ^ i = v at hs hd e1
    repeat (first
      | (show _ ∧ _; exact ⟨rfl, rfl, rfl⟩)
      | refine wkG ?_
      | (show OpOk _ _ _ _ _ _ _; first | refine opB (fun b => ?_) | refine opA (fun a' c' hc1 hc2 => ?_))
      | (show GJ _ _ _ _ _ _ _; first | (apply GJ.and; exact rfl; intro hg) | (apply GJ.or; exact rfl; intro hg) | refine GJ.t omAuto ?_ | refine GJ.f omAuto ?_ | refine GJ.ft omAuto ?_ | refine GJ.ff omAuto ?_))
    refine SeqOk.pass ?_
    repeat (first
      | (show _ ∧ _; exact ⟨rfl, rfl, rfl⟩)
      | refine wkG ?_
      | (show OpOk _ _ _ _ _ _ _; first | refine opB (fun b => ?_) | refine opA (fun a' c' hc1 hc2 => ?_))
      | (show GJ _ _ _ _ _ _ _; first | (apply GJ.and; exact rfl; intro hg) | (apply GJ.or; exact rfl; intro hg) | refine GJ.t omAuto ?_ | refine GJ.f omAuto ?_ | refine GJ.ft omAuto ?_ | refine GJ.ff omAuto ?_))
    rw [e1, nand2_one]
    refine Br.cases (fun he => ?_) (fun he => ?_)
    · rw [if_pos (by omega)] at hs
      repeat (first
        | (show _ ∧ _; exact ⟨rfl, rfl, rfl⟩)
        | refine wkG ?_
        | (show OpOk _ _ _ _ _ _ _; first | refine opB (fun b => ?_) | refine opA (fun a' c' hc1 hc2 => ?_))
        | (show GJ _ _ _ _ _ _ _; first | (apply GJ.and; exact rfl; intro hg) | (apply GJ.or; exact rfl; intro hg) | refine GJ.t omAuto ?_ | refine GJ.f omAuto ?_ | refine GJ.ft omAuto ?_ | refine GJ.ff omAuto ?_))
      rw [Int.toNat_natCast, show 0 + i * 1 = i by omega]
      refine OpOk.load rfl rfl (Ld.hasBlkAt hget) ?_
      repeat (first
        | (show _ ∧ _; exact ⟨rfl, rfl, rfl⟩)
        | refine wkG ?_
        | (show OpOk _ _ _ _ _ _ _; first | refine opB (fun b => ?_) | refine opA (fun a' c' hc1 hc2 => ?_))
        | (show GJ _ _ _ _ _ _ _; first | (apply GJ.and; exact rfl; intro hg) | (apply GJ.or; exact rfl; intro hg) | refine GJ.t omAuto ?_ | refine GJ.f omAuto ?_ | refine GJ.ft omAuto ?_ | refine GJ.ff omAuto ?_))
      rw [nxor2_nat]
      refine Wk.id ⟨(i + 1, _), ⟨rfl, ?_⟩, ?_, Sub.auto, Sup.auto⟩
      all_goals try dsimp only
      · exact ⟨by omega, hs.symm⟩
      · omega
    · rw [if_neg (by omega), Nat.xor_zero] at hs
      repeat (first
        | (show _ ∧ _; exact ⟨rfl, rfl, rfl⟩)
        | refine wkG ?_
        | (show OpOk _ _ _ _ _ _ _; first | refine opB (fun b => ?_) | refine opA (fun a' c' hc1 hc2 => ?_))
        | (show GJ _ _ _ _ _ _ _; first | (apply GJ.and; exact rfl; intro hg) | (apply GJ.or; exact rfl; intro hg) | refine GJ.t omAuto ?_ | refine GJ.f omAuto ?_ | refine GJ.ft omAuto ?_ | refine GJ.ff omAuto ?_))
      refine Wk.id ⟨(i + 1, _), ⟨rfl, ?_⟩, ?_, Sub.auto, Sup.auto⟩
      all_goals try dsimp only
      · exact ⟨by omega, hs.symm⟩
      · omega
  · obtain rfl : i = 32 := by omega
    rw [lowB_all hx]
    repeat (first
      | (show _ ∧ _; exact ⟨rfl, rfl, rfl⟩)
      | refine wkG ?_
      | (show OpOk _ _ _ _ _ _ _; first | refine opB (fun b => ?_) | refine opA (fun a' c' hc1 hc2 => ?_))
      | (show GJ _ _ _ _ _ _ _; first | (apply GJ.and; exact rfl; intro hg) | (apply GJ.or; exact rfl; intro hg) | refine GJ.t omAuto ?_ | refine GJ.f omAuto ?_ | refine GJ.ft omAuto ?_ | refine GJ.ff omAuto ?_))
    exact Wk.id hk
theorem twice_ok {p n : Nat} [hb : HasBlk own p 124 (matV n) g] (hk : ∀ b', K (ptr' b') ro (.blk b' 124 (matV (n + n)) :: own)) : CallOk Try.prog 59 #[ptr' p] ro own K := by
  refine CallOk.intro (args := [_]) (rs := [_]) T_ok Try.func59 Try.call59 rfl rfl (by kernel_rfl) rfl rfl ?_
  repeat (first
    | (show _ ∧ _; exact ⟨rfl, rfl, rfl⟩)
    | refine wkG ?_
    | (show OpOk _ _ _ _ _ _ _; first | refine opB (fun b => ?_) | refine opA (fun a' c' hc1 hc2 => ?_))
    | (show GJ _ _ _ _ _ _ _; first | (apply GJ.and; exact rfl; intro hg) | (apply GJ.or; exact rfl; intro hg) | refine GJ.t omAuto ?_ | refine GJ.f omAuto ?_ | refine GJ.ft omAuto ?_ | refine GJ.ff omAuto ?_))
  refine LoopOk.at (ι := Nat × List Value) Keep.auto (fun (i, cs) => [(6, .int .i64 (i : Int))]) (fun (i, cs) => .blk b 124 cs :: own) (fun (i, cs) => i ≤ 32 ∧ cs = (matV (n + n)).take i ++ List.replicate (32 - i) (.int .u32 0)) (fun (i, cs) => 32 - i) (0, _) ?_ Sub.auto Sup.auto ?_
  · exact ⟨by omega, rfl⟩
  rintro ⟨i, cs⟩ ⟨i1, rfl⟩
  dsimp only [List.cons_append, List.nil_append]
  repeat (first
    | (show _ ∧ _; exact ⟨rfl, rfl, rfl⟩)
    | refine wkG ?_
    | (show OpOk _ _ _ _ _ _ _; first | refine opB (fun b => ?_) | refine opA (fun a' c' hc1 hc2 => ?_))
    | (show GJ _ _ _ _ _ _ _; first | (apply GJ.and; exact rfl; intro hg) | (apply GJ.or; exact rfl; intro hg) | refine GJ.t omAuto ?_ | refine GJ.f omAuto ?_ | refine GJ.ft omAuto ?_ | refine GJ.ff omAuto ?_))
  refine Br.cases (fun hc => ?_) (fun hc => ?_)
  · have hget := matV_get (n := n) (i := i) (by omega)
    have hp : (2 : Nat) ^ i < 4294967296 := Nat.lt_of_lt_of_le (Nat.pow_lt_pow_right (by omega) (show i < 32 by omega)) (by decide)
    have hlt2 : bits n (2 ^ i) < 4294967296 := bits_lt hp n
    have hget2 := matV_get (n := n + n) (i := i) (by omega)
    rw [← bits_add] at hget2
    generalize bits n (2 ^ i) = z at hlt2 hget hget2
    repeat (first
      | (show _ ∧ _; exact ⟨rfl, rfl, rfl⟩)
      | refine wkG ?_
      | (show OpOk _ _ _ _ _ _ _; first | refine opB (fun b => ?_) | refine opA (fun a' c' hc1 hc2 => ?_))
      | (show GJ _ _ _ _ _ _ _; first | (apply GJ.and; exact rfl; intro hg) | (apply GJ.or; exact rfl; intro hg) | refine GJ.t omAuto ?_ | refine GJ.f omAuto ?_ | refine GJ.ft omAuto ?_ | refine GJ.ff omAuto ?_))
    refine Bs.all ?_
    repeat (first
      | (show _ ∧ _; exact ⟨rfl, rfl, rfl⟩)
      | refine wkG ?_
      | (show OpOk _ _ _ _ _ _ _; first | refine opB (fun b => ?_) | refine opA (fun a' c' hc1 hc2 => ?_))
      | (show GJ _ _ _ _ _ _ _; first | (apply GJ.and; exact rfl; intro hg) | (apply GJ.or; exact rfl; intro hg) | refine GJ.t omAuto ?_ | refine GJ.f omAuto ?_ | refine GJ.ft omAuto ?_ | refine GJ.ff omAuto ?_))
    rw [Int.toNat_natCast, show 0 + i * 1 = i by omega]
    refine QOk.load rfl rfl (Ld.hasBlkAt hget) ?_
    repeat (first
      | (show _ ∧ _; exact ⟨rfl, rfl, rfl⟩)
      | refine wkG ?_
      | (show OpOk _ _ _ _ _ _ _; first | refine opB (fun b => ?_) | refine opA (fun a' c' hc1 hc2 => ?_))
      | (show GJ _ _ _ _ _ _ _; first | (apply GJ.and; exact rfl; intro hg) | (apply GJ.or; exact rfl; intro hg) | refine GJ.t omAuto ?_ | refine GJ.f omAuto ?_ | refine GJ.ft omAuto ?_ | refine GJ.ff omAuto ?_))
    refine times_ok (n := n) hlt2 ?_
    generalize bits n z = y at hget2
    repeat (first
      | (show _ ∧ _; exact ⟨rfl, rfl, rfl⟩)
      | refine wkG ?_
      | (show OpOk _ _ _ _ _ _ _; first | refine opB (fun b => ?_) | refine opA (fun a' c' hc1 hc2 => ?_))
      | (show GJ _ _ _ _ _ _ _; first | (apply GJ.and; exact rfl; intro hg) | (apply GJ.or; exact rfl; intro hg) | refine GJ.t omAuto ?_ | refine GJ.f omAuto ?_ | refine GJ.ft omAuto ?_ | refine GJ.ff omAuto ?_))
    rw [Int.toNat_natCast, show 0 + i * 1 = i by omega]
    refine OpOk.storeAt rfl rfl rfl rfl (by simp [matV, matL_len]; omega) ?_
    rw [fill_set (by simp [matV, matL_len]) (by omega) hget2]
    repeat (first
      | (show _ ∧ _; exact ⟨rfl, rfl, rfl⟩)
      | refine wkG ?_
      | (show OpOk _ _ _ _ _ _ _; first | refine opB (fun b => ?_) | refine opA (fun a' c' hc1 hc2 => ?_))
      | (show GJ _ _ _ _ _ _ _; first | (apply GJ.and; exact rfl; intro hg) | (apply GJ.or; exact rfl; intro hg) | refine GJ.t omAuto ?_ | refine GJ.f omAuto ?_ | refine GJ.ft omAuto ?_ | refine GJ.ff omAuto ?_))
    refine Wk.id ⟨(i + 1, _), ⟨rfl, ?_⟩, ?_, Sub.auto, Sup.auto⟩
    all_goals try dsimp only
    · exact ⟨by omega, rfl⟩
    · omega
  · obtain rfl : i = 32 := by omega
    rw [List.take_of_length_le (by simp [matV, matL_len]), Nat.sub_self, List.replicate_zero, List.append_nil]
    repeat (first
      | (show _ ∧ _; exact ⟨rfl, rfl, rfl⟩)
      | refine wkG ?_
      | (show OpOk _ _ _ _ _ _ _; first | refine opB (fun b => ?_) | refine opA (fun a' c' hc1 hc2 => ?_))
      | (show GJ _ _ _ _ _ _ _; first | (apply GJ.and; exact rfl; intro hg) | (apply GJ.or; exact rfl; intro hg) | refine GJ.t omAuto ?_ | refine GJ.f omAuto ?_ | refine GJ.ft omAuto ?_ | refine GJ.ff omAuto ?_))
    exact Wk.id (hk _)
theorem join_ok {x y k : Nat} {long : Int} (hx : x < 4294967296) (hy : y < 4294967296) (hlong : long ≤ 1000000) (hkl : k = long.toNat) (hk : K (.int .u32 ((bits (8 * k) x ^^^ y : Nat) : Int)) ro own) : CallOk Try.prog 36 #[.int .u32 x, .int .u32 y, .int .i64 long] ro own K := by
  refine CallOk.intro (args := [_, _, _]) (rs := [_]) T_ok Try.func36 Try.call36 rfl rfl (by kernel_rfl) rfl rfl ?_
  repeat (first
    | (show _ ∧ _; exact ⟨rfl, rfl, rfl⟩)
    | refine wkG ?_
    | (show OpOk _ _ _ _ _ _ _; first | refine opB (fun b => ?_) | refine opA (fun a' c' hc1 hc2 => ?_))
    | (show GJ _ _ _ _ _ _ _; first | (apply GJ.and; exact rfl; intro hg) | (apply GJ.or; exact rfl; intro hg) | refine GJ.t omAuto ?_ | refine GJ.f omAuto ?_ | refine GJ.ft omAuto ?_ | refine GJ.ff omAuto ?_))
  refine LoopOk.at (ι := Nat × List Value) Keep.auto (fun (i, cs) => [(11, .int .i64 (i : Int))]) (fun (i, cs) => .blk b 124 cs :: own) (fun (i, cs) => i ≤ 32 ∧ cs = (matV 8).take i ++ List.replicate (32 - i) (.int .u32 0)) (fun (i, cs) => 32 - i) (0, _) ?_ Sub.auto Sup.auto ?_
  · exact ⟨by omega, rfl⟩
  rintro ⟨i, cs⟩ ⟨i1, rfl⟩
  dsimp only [List.cons_append, List.nil_append]
  repeat (first
    | (show _ ∧ _; exact ⟨rfl, rfl, rfl⟩)
    | refine wkG ?_
    | (show OpOk _ _ _ _ _ _ _; first | refine opB (fun b => ?_) | refine opA (fun a' c' hc1 hc2 => ?_))
    | (show GJ _ _ _ _ _ _ _; first | (apply GJ.and; exact rfl; intro hg) | (apply GJ.or; exact rfl; intro hg) | refine GJ.t omAuto ?_ | refine GJ.f omAuto ?_ | refine GJ.ft omAuto ?_ | refine GJ.ff omAuto ?_))
  refine Br.cases (fun hc => ?_) (fun hc => ?_)
  · have hp : (2 : Nat) ^ i < 4294967296 := Nat.lt_of_lt_of_le (Nat.pow_lt_pow_right (by omega) (show i < 32 by omega)) (by decide)
    have hget2 := matV_get (n := 8) (i := i) (by omega)
    have e1 : (1 : Int) * 2 ^ (i : Int).toNat % 4294967296 = ((2 ^ i : Nat) : Int) := by
      rw [Int.one_mul, Int.toNat_natCast, show (2 : Int) ^ i = ((2 ^ i : Nat) : Int) by simp]
      exact Int.emod_eq_of_lt (Int.natCast_nonneg _) (by omega)
    repeat (first
      | (show _ ∧ _; exact ⟨rfl, rfl, rfl⟩)
      | refine wkG ?_
      | (show OpOk _ _ _ _ _ _ _; first | refine opB (fun b => ?_) | refine opA (fun a' c' hc1 hc2 => ?_))
      | (show GJ _ _ _ _ _ _ _; first | (apply GJ.and; exact rfl; intro hg) | (apply GJ.or; exact rfl; intro hg) | refine GJ.t omAuto ?_ | refine GJ.f omAuto ?_ | refine GJ.ft omAuto ?_ | refine GJ.ff omAuto ?_))
    refine Bs.all ?_
    repeat (first
      | (show _ ∧ _; exact ⟨rfl, rfl, rfl⟩)
      | refine wkG ?_
      | (show OpOk _ _ _ _ _ _ _; first | refine opB (fun b => ?_) | refine opA (fun a' c' hc1 hc2 => ?_))
      | (show GJ _ _ _ _ _ _ _; first | (apply GJ.and; exact rfl; intro hg) | (apply GJ.or; exact rfl; intro hg) | refine GJ.t omAuto ?_ | refine GJ.f omAuto ?_ | refine GJ.ft omAuto ?_ | refine GJ.ff omAuto ?_))
    rw [e1]
    refine step_ok hp ?_
    unfold stepN
    generalize bits 8 (2 ^ i) = z at hget2
    repeat (first
      | (show _ ∧ _; exact ⟨rfl, rfl, rfl⟩)
      | refine wkG ?_
      | (show OpOk _ _ _ _ _ _ _; first | refine opB (fun b => ?_) | refine opA (fun a' c' hc1 hc2 => ?_))
      | (show GJ _ _ _ _ _ _ _; first | (apply GJ.and; exact rfl; intro hg) | (apply GJ.or; exact rfl; intro hg) | refine GJ.t omAuto ?_ | refine GJ.f omAuto ?_ | refine GJ.ft omAuto ?_ | refine GJ.ff omAuto ?_))
    rw [Int.toNat_natCast, show 0 + i * 1 = i by omega]
    refine OpOk.storeAt rfl rfl rfl rfl (by simp [matV, matL_len]; omega) ?_
    rw [fill_set (by simp [matV, matL_len]) (by omega) hget2]
    repeat (first
      | (show _ ∧ _; exact ⟨rfl, rfl, rfl⟩)
      | refine wkG ?_
      | (show OpOk _ _ _ _ _ _ _; first | refine opB (fun b => ?_) | refine opA (fun a' c' hc1 hc2 => ?_))
      | (show GJ _ _ _ _ _ _ _; first | (apply GJ.and; exact rfl; intro hg) | (apply GJ.or; exact rfl; intro hg) | refine GJ.t omAuto ?_ | refine GJ.f omAuto ?_ | refine GJ.ft omAuto ?_ | refine GJ.ff omAuto ?_))
    refine Wk.id ⟨(i + 1, _), ⟨rfl, ?_⟩, ?_, Sub.auto, Sup.auto⟩
    all_goals try dsimp only
    · exact ⟨by omega, rfl⟩
    · omega
  · obtain rfl : i = 32 := by omega
    rw [List.take_of_length_le (by simp [matV, matL_len]), Nat.sub_self, List.replicate_zero, List.append_nil]
    repeat (first
      | (show _ ∧ _; exact ⟨rfl, rfl, rfl⟩)
      | refine wkG ?_
      | (show OpOk _ _ _ _ _ _ _; first | refine opB (fun b => ?_) | refine opA (fun a' c' hc1 hc2 => ?_))
      | (show GJ _ _ _ _ _ _ _; first | (apply GJ.and; exact rfl; intro hg) | (apply GJ.or; exact rfl; intro hg) | refine GJ.t omAuto ?_ | refine GJ.f omAuto ?_ | refine GJ.ft omAuto ?_ | refine GJ.ff omAuto ?_))
    rw [show max 0 long = (k : Int) by omega]
    have h0 : bits (8 * 1 * k) x = bits (8 * k) x := by rw [Nat.mul_one]
    refine LoopOk.at (ι := Nat × Nat × Nat × Nat) Keep.auto (fun (n, m, z, p) => [(9, .int .i64 (n : Int)), (0, .int .u32 (z : Int)), (7, ptr' p)]) (fun (n, m, z, p) => .blk p 124 (matV (8 * m)) :: own) (fun (n, m, z, p) => bits (8 * m * n) z = bits (8 * k) x ∧ z < 4294967296 ∧ n ≤ 1000000) (fun (n, m, z, p) => n) (k, 1, x, _) ?_ Sub.auto Sup.auto ?_
    · exact ⟨h0, hx, by omega⟩
    rintro ⟨n, m, z, p⟩ ⟨i1, i2, i3⟩
    dsimp only [List.cons_append, List.nil_append] at i1 i2 i3 ⊢
    repeat (first
      | (show _ ∧ _; exact ⟨rfl, rfl, rfl⟩)
      | refine wkG ?_
      | (show OpOk _ _ _ _ _ _ _; first | refine opB (fun b => ?_) | refine opA (fun a' c' hc1 hc2 => ?_))
      | (show GJ _ _ _ _ _ _ _; first | (apply GJ.and; exact rfl; intro hg) | (apply GJ.or; exact rfl; intro hg) | refine GJ.t omAuto ?_ | refine GJ.f omAuto ?_ | refine GJ.ft omAuto ?_ | refine GJ.ff omAuto ?_))
    refine Br.cases (fun hd => ?_) (fun hd => ?_)
    · have hh := bits_halves z m n 0 (by omega)
      rw [i1] at hh
      have e2 : (n : Int) / 2 ^ Int.toNat 1 = ((n / 2 : Nat) : Int) := by simp
      have e3 : 8 * m + 8 * m = 8 * (2 * m) := by omega
      have hlt := bits_lt i2 (8 * m)
      repeat (first
        | (show _ ∧ _; exact ⟨rfl, rfl, rfl⟩)
        | refine wkG ?_
        | (show OpOk _ _ _ _ _ _ _; first | refine opB (fun b => ?_) | refine opA (fun a' c' hc1 hc2 => ?_))
        | (show GJ _ _ _ _ _ _ _; first | (apply GJ.and; exact rfl; intro hg) | (apply GJ.or; exact rfl; intro hg) | refine GJ.t omAuto ?_ | refine GJ.f omAuto ?_ | refine GJ.ft omAuto ?_ | refine GJ.ff omAuto ?_))
      refine SeqOk.pass ?_
      repeat (first
        | (show _ ∧ _; exact ⟨rfl, rfl, rfl⟩)
        | refine wkG ?_
        | (show OpOk _ _ _ _ _ _ _; first | refine opB (fun b => ?_) | refine opA (fun a' c' hc1 hc2 => ?_))
        | (show GJ _ _ _ _ _ _ _; first | (apply GJ.and; exact rfl; intro hg) | (apply GJ.or; exact rfl; intro hg) | refine GJ.t omAuto ?_ | refine GJ.f omAuto ?_ | refine GJ.ft omAuto ?_ | refine GJ.ff omAuto ?_))
      rw [nand2_one]
      refine Br.cases (fun he => ?_) (fun he => ?_)
      · rw [if_pos (by omega)] at hh
        repeat (first
          | (show _ ∧ _; exact ⟨rfl, rfl, rfl⟩)
          | refine wkG ?_
          | (show OpOk _ _ _ _ _ _ _; first | refine opB (fun b => ?_) | refine opA (fun a' c' hc1 hc2 => ?_))
          | (show GJ _ _ _ _ _ _ _; first | (apply GJ.and; exact rfl; intro hg) | (apply GJ.or; exact rfl; intro hg) | refine GJ.t omAuto ?_ | refine GJ.f omAuto ?_ | refine GJ.ft omAuto ?_ | refine GJ.ff omAuto ?_))
        refine times_ok (n := 8 * m) i2 ?_
        generalize bits (8 * m) z = z1 at hh hlt
        repeat (first
          | (show _ ∧ _; exact ⟨rfl, rfl, rfl⟩)
          | refine wkG ?_
          | (show OpOk _ _ _ _ _ _ _; first | refine opB (fun b => ?_) | refine opA (fun a' c' hc1 hc2 => ?_))
          | (show GJ _ _ _ _ _ _ _; first | (apply GJ.and; exact rfl; intro hg) | (apply GJ.or; exact rfl; intro hg) | refine GJ.t omAuto ?_ | refine GJ.f omAuto ?_ | refine GJ.ft omAuto ?_ | refine GJ.ff omAuto ?_))
        refine twice_ok (n := 8 * m) (fun b' => ?_)
        rw [e3]
        repeat (first
          | (show _ ∧ _; exact ⟨rfl, rfl, rfl⟩)
          | refine wkG ?_
          | (show OpOk _ _ _ _ _ _ _; first | refine opB (fun b => ?_) | refine opA (fun a' c' hc1 hc2 => ?_))
          | (show GJ _ _ _ _ _ _ _; first | (apply GJ.and; exact rfl; intro hg) | (apply GJ.or; exact rfl; intro hg) | refine GJ.t omAuto ?_ | refine GJ.f omAuto ?_ | refine GJ.ft omAuto ?_ | refine GJ.ff omAuto ?_))
        rw [e2]
        refine Wk.id ⟨(n / 2, 2 * m, z1, b'), ⟨rfl, ?_⟩, ?_, Sub.auto, Sup.auto⟩
        all_goals try dsimp only
        · exact ⟨hh.symm, hlt, by omega⟩
        · omega
      · rw [if_neg (by omega)] at hh
        repeat (first
          | (show _ ∧ _; exact ⟨rfl, rfl, rfl⟩)
          | refine wkG ?_
          | (show OpOk _ _ _ _ _ _ _; first | refine opB (fun b => ?_) | refine opA (fun a' c' hc1 hc2 => ?_))
          | (show GJ _ _ _ _ _ _ _; first | (apply GJ.and; exact rfl; intro hg) | (apply GJ.or; exact rfl; intro hg) | refine GJ.t omAuto ?_ | refine GJ.f omAuto ?_ | refine GJ.ft omAuto ?_ | refine GJ.ff omAuto ?_))
        refine twice_ok (n := 8 * m) (fun b' => ?_)
        rw [e3]
        repeat (first
          | (show _ ∧ _; exact ⟨rfl, rfl, rfl⟩)
          | refine wkG ?_
          | (show OpOk _ _ _ _ _ _ _; first | refine opB (fun b => ?_) | refine opA (fun a' c' hc1 hc2 => ?_))
          | (show GJ _ _ _ _ _ _ _; first | (apply GJ.and; exact rfl; intro hg) | (apply GJ.or; exact rfl; intro hg) | refine GJ.t omAuto ?_ | refine GJ.f omAuto ?_ | refine GJ.ft omAuto ?_ | refine GJ.ff omAuto ?_))
        rw [e2]
        refine Wk.id ⟨(n / 2, 2 * m, z, b'), ⟨rfl, ?_⟩, ?_, Sub.auto, Sup.auto⟩
        all_goals try dsimp only
        · exact ⟨hh.symm, i2, by omega⟩
        · omega
    · obtain rfl : n = 0 := by omega
      rw [Nat.mul_zero] at i1
      replace i1 : z = bits (8 * k) x := i1
      subst i1
      generalize bits (8 * k) x = z at i2 hk
      repeat (first
        | (show _ ∧ _; exact ⟨rfl, rfl, rfl⟩)
        | refine wkG ?_
        | (show OpOk _ _ _ _ _ _ _; first | refine opB (fun b => ?_) | refine opA (fun a' c' hc1 hc2 => ?_))
        | (show GJ _ _ _ _ _ _ _; first | (apply GJ.and; exact rfl; intro hg) | (apply GJ.or; exact rfl; intro hg) | refine GJ.t omAuto ?_ | refine GJ.f omAuto ?_ | refine GJ.ft omAuto ?_ | refine GJ.ff omAuto ?_))
      rw [nxor2_nat]
      exact Wk.outS Sup.auto (.refl _) hk
end
end Go.Proofs.Ytpjiaafkcojddaa
