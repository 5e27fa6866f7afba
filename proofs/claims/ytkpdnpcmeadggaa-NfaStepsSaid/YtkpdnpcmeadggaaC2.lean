/- Contracts of class: Or, Not, All, Check, Range, Of. -/
import Derived.Test.YtkpdnpcmeadggaaC1
namespace Go.Proofs.Ytkpdnpcmeadggaa
open Go Go.E
set_option linter.unusedVariables false
set_option maxRecDepth 10000
section
variable {ro : Ro} {own r : Chs} {K : Value → Ro → Chs → Prop} {g : Chunk → Chs}
theorem or_ok {s t : SetD} (hs : SetIn s) (ht : SetIn t) (hk : K (.agg (setV (s.or t)).toArray) ro own) : CallOk Try.prog 68 #[.agg (setV s).toArray, .agg (setV t).toArray] ro own K := by
  refine CallOk.intro (args := [_, _]) (rs := [_]) T_ok Try.func68 Try.call68 rfl rfl (by kernel_rfl) rfl rfl ?_
  repeat (first
    | (show _ ∧ _; exact ⟨rfl, rfl, rfl⟩)
    | refine wkG ?_
    | (show OpOk _ _ _ _ _ _ _; first | refine opB (fun b => ?_) | refine opA (fun a' c' hc1 hc2 => ?_))
    | (show GJ _ _ _ _ _ _ _; first | (apply GJ.and; exact rfl; intro hg) | (apply GJ.or; exact rfl; intro hg) | refine GJ.t omAuto ?_ | refine GJ.f omAuto ?_ | refine GJ.ft omAuto ?_ | refine GJ.ff omAuto ?_))
  rename_i bs bt
  refine LoopOk.at (ι := Nat × SetD) Keep.auto (fun (i, u) => [(6, .int .i64 (i : Int))]) (fun (i, u) => .blk b 64 [.int .u64 0, .int .u64 0, .int .u64 0, .int .u64 0] :: .blk bt 64 (setV t) :: .blk bs 64 (setV u) :: own) (fun (i, u) => i ≤ 4 ∧ ∀ k, k < 4 → u.w k = if k < i then (s.or t).w k else s.w k) (fun (i, u) => 4 - i) (0, s) ?_ Sub.auto Sup.auto ?_
  · exact ⟨by omega, fun k hk => by rw [if_neg (by omega)]⟩
  rintro ⟨i, u⟩ ⟨i1, i2⟩
  dsimp only [List.cons_append, List.nil_append] at i1 i2 ⊢
  repeat (first
    | (show _ ∧ _; exact ⟨rfl, rfl, rfl⟩)
    | refine wkG ?_
    | (show OpOk _ _ _ _ _ _ _; first | refine opB (fun b => ?_) | refine opA (fun a' c' hc1 hc2 => ?_))
    | (show GJ _ _ _ _ _ _ _; first | (apply GJ.and; exact rfl; intro hg) | (apply GJ.or; exact rfl; intro hg) | refine GJ.t omAuto ?_ | refine GJ.f omAuto ?_ | refine GJ.ft omAuto ?_ | refine GJ.ff omAuto ?_))
  refine Br.cases (fun hg => ?_) (fun hg => ?_)
  · have h1 := hs i
    have h2 := ht i
    have h3 := i2 i (by omega)
    rw [if_neg (by omega)] at h3
    rw [← h3] at h1
    repeat (first
      | (show _ ∧ _; exact ⟨rfl, rfl, rfl⟩)
      | refine wkG ?_
      | (show OpOk _ _ _ _ _ _ _; first | refine opB (fun b => ?_) | refine opA (fun a' c' hc1 hc2 => ?_))
      | (show GJ _ _ _ _ _ _ _; first | (apply GJ.and; exact rfl; intro hg) | (apply GJ.or; exact rfl; intro hg) | refine GJ.t omAuto ?_ | refine GJ.f omAuto ?_ | refine GJ.ft omAuto ?_ | refine GJ.ff omAuto ?_))
    refine QOk.load rfl rfl (Ld.setAt u rfl (k := i) (by omega) (by omega)) ?_
    repeat (first
      | (show _ ∧ _; exact ⟨rfl, rfl, rfl⟩)
      | refine wkG ?_
      | (show OpOk _ _ _ _ _ _ _; first | refine opB (fun b => ?_) | refine opA (fun a' c' hc1 hc2 => ?_))
      | (show GJ _ _ _ _ _ _ _; first | (apply GJ.and; exact rfl; intro hg) | (apply GJ.or; exact rfl; intro hg) | refine GJ.t omAuto ?_ | refine GJ.f omAuto ?_ | refine GJ.ft omAuto ?_ | refine GJ.ff omAuto ?_))
    refine QOk.load rfl rfl (Ld.setAt t rfl (k := i) (by omega) (by omega)) ?_
    repeat (first
      | (show _ ∧ _; exact ⟨rfl, rfl, rfl⟩)
      | refine wkG ?_
      | (show OpOk _ _ _ _ _ _ _; first | refine opB (fun b => ?_) | refine opA (fun a' c' hc1 hc2 => ?_))
      | (show GJ _ _ _ _ _ _ _; first | (apply GJ.and; exact rfl; intro hg) | (apply GJ.or; exact rfl; intro hg) | refine GJ.t omAuto ?_ | refine GJ.f omAuto ?_ | refine GJ.ft omAuto ?_ | refine GJ.ff omAuto ?_))
    refine storeSet (k := i) (w := u.w i ||| t.w i) u rfl rfl rfl rfl rfl (by omega) (by omega) ?_
    repeat (first
      | (show _ ∧ _; exact ⟨rfl, rfl, rfl⟩)
      | refine wkG ?_
      | (show OpOk _ _ _ _ _ _ _; first | refine opB (fun b => ?_) | refine opA (fun a' c' hc1 hc2 => ?_))
      | (show GJ _ _ _ _ _ _ _; first | (apply GJ.and; exact rfl; intro hg) | (apply GJ.or; exact rfl; intro hg) | refine GJ.t omAuto ?_ | refine GJ.f omAuto ?_ | refine GJ.ft omAuto ?_ | refine GJ.ff omAuto ?_))
    refine Wk.id ⟨(i + 1, u.put i (u.w i ||| t.w i)), ⟨rfl, ?_⟩, ?_, Sub.auto, Sup.auto⟩
    all_goals try dsimp only
    · refine ⟨by omega, fun k hk => ?_⟩
      rw [SetD.w_put (by omega) hk]
      by_cases hki : k = i
      · subst hki; rw [if_pos rfl, if_pos (by omega), i2 k hk, if_neg (by omega), SetD.w_or]
      · rw [if_neg hki, i2 k hk]
        by_cases hlt : k < i
        · rw [if_pos hlt, if_pos (by omega)]
        · rw [if_neg hlt, if_neg (by omega)]
    · omega
  · obtain rfl : u = s.or t := SetD.ext4 (fun k hk => by rw [i2 k hk, if_pos (by omega)])
    repeat (first
      | (show _ ∧ _; exact ⟨rfl, rfl, rfl⟩)
      | refine wkG ?_
      | (show OpOk _ _ _ _ _ _ _; first | refine opB (fun b => ?_) | refine opA (fun a' c' hc1 hc2 => ?_))
      | (show GJ _ _ _ _ _ _ _; first | (apply GJ.and; exact rfl; intro hg) | (apply GJ.or; exact rfl; intro hg) | refine GJ.t omAuto ?_ | refine GJ.f omAuto ?_ | refine GJ.ft omAuto ?_ | refine GJ.ff omAuto ?_))
    exact Wk.outS Sup.auto (.refl _) hk
theorem not_ok {s : SetD} (hs : SetIn s) (hk : K (.agg (setV s.not).toArray) ro own) : CallOk Try.prog 67 #[.agg (setV s).toArray] ro own K := by
  refine CallOk.intro (args := [_]) (rs := [_]) T_ok Try.func67 Try.call67 rfl rfl (by kernel_rfl) rfl rfl ?_
  repeat (first
    | (show _ ∧ _; exact ⟨rfl, rfl, rfl⟩)
    | refine wkG ?_
    | (show OpOk _ _ _ _ _ _ _; first | refine opB (fun b => ?_) | refine opA (fun a' c' hc1 hc2 => ?_))
    | (show GJ _ _ _ _ _ _ _; first | (apply GJ.and; exact rfl; intro hg) | (apply GJ.or; exact rfl; intro hg) | refine GJ.t omAuto ?_ | refine GJ.f omAuto ?_ | refine GJ.ft omAuto ?_ | refine GJ.ff omAuto ?_))
  rename_i bs
  refine LoopOk.at (ι := Nat × SetD) Keep.auto (fun (i, u) => [(4, .int .i64 (i : Int))]) (fun (i, u) => .blk b 64 [.int .u64 0, .int .u64 0, .int .u64 0, .int .u64 0] :: .blk bs 64 (setV u) :: own) (fun (i, u) => i ≤ 4 ∧ ∀ k, k < 4 → u.w k = if k < i then s.not.w k else s.w k) (fun (i, u) => 4 - i) (0, s) ?_ Sub.auto Sup.auto ?_
  · exact ⟨by omega, fun k hk => by rw [if_neg (by omega)]⟩
  rintro ⟨i, u⟩ ⟨i1, i2⟩
  dsimp only [List.cons_append, List.nil_append] at i1 i2 ⊢
  repeat (first
    | (show _ ∧ _; exact ⟨rfl, rfl, rfl⟩)
    | refine wkG ?_
    | (show OpOk _ _ _ _ _ _ _; first | refine opB (fun b => ?_) | refine opA (fun a' c' hc1 hc2 => ?_))
    | (show GJ _ _ _ _ _ _ _; first | (apply GJ.and; exact rfl; intro hg) | (apply GJ.or; exact rfl; intro hg) | refine GJ.t omAuto ?_ | refine GJ.f omAuto ?_ | refine GJ.ft omAuto ?_ | refine GJ.ff omAuto ?_))
  refine Br.cases (fun hg => ?_) (fun hg => ?_)
  · have h1 := hs i
    have h3 := i2 i (by omega)
    rw [if_neg (by omega)] at h3
    rw [← h3] at h1
    repeat (first
      | (show _ ∧ _; exact ⟨rfl, rfl, rfl⟩)
      | refine wkG ?_
      | (show OpOk _ _ _ _ _ _ _; first | refine opB (fun b => ?_) | refine opA (fun a' c' hc1 hc2 => ?_))
      | (show GJ _ _ _ _ _ _ _; first | (apply GJ.and; exact rfl; intro hg) | (apply GJ.or; exact rfl; intro hg) | refine GJ.t omAuto ?_ | refine GJ.f omAuto ?_ | refine GJ.ft omAuto ?_ | refine GJ.ff omAuto ?_))
    refine OpOk.load rfl rfl (Ld.setAt u rfl (k := i) (by omega) (by omega)) ?_
    repeat (first
      | (show _ ∧ _; exact ⟨rfl, rfl, rfl⟩)
      | refine wkG ?_
      | (show OpOk _ _ _ _ _ _ _; first | refine opB (fun b => ?_) | refine opA (fun a' c' hc1 hc2 => ?_))
      | (show GJ _ _ _ _ _ _ _; first | (apply GJ.and; exact rfl; intro hg) | (apply GJ.or; exact rfl; intro hg) | refine GJ.t omAuto ?_ | refine GJ.f omAuto ?_ | refine GJ.ft omAuto ?_ | refine GJ.ff omAuto ?_))
    refine OpOk.xor64 (n := u.w i) rfl h1 ?_
    repeat (first
      | (show _ ∧ _; exact ⟨rfl, rfl, rfl⟩)
      | refine wkG ?_
      | (show OpOk _ _ _ _ _ _ _; first | refine opB (fun b => ?_) | refine opA (fun a' c' hc1 hc2 => ?_))
      | (show GJ _ _ _ _ _ _ _; first | (apply GJ.and; exact rfl; intro hg) | (apply GJ.or; exact rfl; intro hg) | refine GJ.t omAuto ?_ | refine GJ.f omAuto ?_ | refine GJ.ft omAuto ?_ | refine GJ.ff omAuto ?_))
    refine storeSet (k := i) (w := 18446744073709551615 - u.w i) u rfl rfl rfl rfl rfl (by omega) (by omega) ?_
    repeat (first
      | (show _ ∧ _; exact ⟨rfl, rfl, rfl⟩)
      | refine wkG ?_
      | (show OpOk _ _ _ _ _ _ _; first | refine opB (fun b => ?_) | refine opA (fun a' c' hc1 hc2 => ?_))
      | (show GJ _ _ _ _ _ _ _; first | (apply GJ.and; exact rfl; intro hg) | (apply GJ.or; exact rfl; intro hg) | refine GJ.t omAuto ?_ | refine GJ.f omAuto ?_ | refine GJ.ft omAuto ?_ | refine GJ.ff omAuto ?_))
    refine Wk.id ⟨(i + 1, u.put i (18446744073709551615 - u.w i)), ⟨rfl, ?_⟩, ?_, Sub.auto, Sup.auto⟩
    all_goals try dsimp only
    · refine ⟨by omega, fun k hk => ?_⟩
      rw [SetD.w_put (by omega) hk]
      by_cases hki : k = i
      · subst hki; rw [if_pos rfl, if_pos (by omega), i2 k hk, if_neg (by omega), SetD.w_not]
      · rw [if_neg hki, i2 k hk]
        by_cases hlt : k < i
        · rw [if_pos hlt, if_pos (by omega)]
        · rw [if_neg hlt, if_neg (by omega)]
    · omega
  · obtain rfl : u = s.not := SetD.ext4 (fun k hk => by rw [i2 k hk, if_pos (by omega)])
    repeat (first
      | (show _ ∧ _; exact ⟨rfl, rfl, rfl⟩)
      | refine wkG ?_
      | (show OpOk _ _ _ _ _ _ _; first | refine opB (fun b => ?_) | refine opA (fun a' c' hc1 hc2 => ?_))
      | (show GJ _ _ _ _ _ _ _; first | (apply GJ.and; exact rfl; intro hg) | (apply GJ.or; exact rfl; intro hg) | refine GJ.t omAuto ?_ | refine GJ.f omAuto ?_ | refine GJ.ft omAuto ?_ | refine GJ.ff omAuto ?_))
    exact Wk.outS Sup.auto (.refl _) hk
theorem SetIn.zero : SetIn ⟨0, 0, 0, 0⟩ := fun k => by unfold SetD.w; split; decide; split; decide; split <;> decide
def allD : SetD := ⟨18446744073709551615, 18446744073709551615, 18446744073709551615, 18446744073709551615⟩
theorem all_ok (hk : K (.agg (setV allD).toArray) ro own) : CallOk Try.prog 62 #[] ro own K := by
  refine CallOk.intro (args := []) (rs := [_]) T_ok Try.func62 Try.call62 rfl rfl (by kernel_rfl) rfl rfl ?_
  repeat (first
    | (show _ ∧ _; exact ⟨rfl, rfl, rfl⟩)
    | refine wkG ?_
    | (show OpOk _ _ _ _ _ _ _; first | refine opB (fun b => ?_) | refine opA (fun a' c' hc1 hc2 => ?_))
    | (show GJ _ _ _ _ _ _ _; first | (apply GJ.and; exact rfl; intro hg) | (apply GJ.or; exact rfl; intro hg) | refine GJ.t omAuto ?_ | refine GJ.f omAuto ?_ | refine GJ.ft omAuto ?_ | refine GJ.ff omAuto ?_))
  refine OpOk.buildK (ps := []) (setV ⟨0, 0, 0, 0⟩) rfl (by kernel_rfl) ?_
  repeat (first
    | (show _ ∧ _; exact ⟨rfl, rfl, rfl⟩)
    | refine wkG ?_
    | (show OpOk _ _ _ _ _ _ _; first | refine opB (fun b => ?_) | refine opA (fun a' c' hc1 hc2 => ?_))
    | (show GJ _ _ _ _ _ _ _; first | (apply GJ.and; exact rfl; intro hg) | (apply GJ.or; exact rfl; intro hg) | refine GJ.t omAuto ?_ | refine GJ.f omAuto ?_ | refine GJ.ft omAuto ?_ | refine GJ.ff omAuto ?_))
  refine not_ok SetIn.zero ?_
  repeat (first
    | (show _ ∧ _; exact ⟨rfl, rfl, rfl⟩)
    | refine wkG ?_
    | (show OpOk _ _ _ _ _ _ _; first | refine opB (fun b => ?_) | refine opA (fun a' c' hc1 hc2 => ?_))
    | (show GJ _ _ _ _ _ _ _; first | (apply GJ.and; exact rfl; intro hg) | (apply GJ.or; exact rfl; intro hg) | refine GJ.t omAuto ?_ | refine GJ.f omAuto ?_ | refine GJ.ft omAuto ?_ | refine GJ.ff omAuto ?_))
  exact Wk.outS Sup.auto (.refl _) hk
theorem check_ok {s : SetD} (hk : K (.int .i64 (if s = ⟨0, 0, 0, 0⟩ then 160 else 0)) ro own) : CallOk Try.prog 30 #[.agg (setV s).toArray] ro own K := by
  refine CallOk.intro (args := [_]) (rs := [_]) T_ok Try.func30 Try.call30 rfl rfl (by kernel_rfl) rfl rfl ?_
  repeat (first
    | (show _ ∧ _; exact ⟨rfl, rfl, rfl⟩)
    | refine wkG ?_
    | (show OpOk _ _ _ _ _ _ _; first | refine opB (fun b => ?_) | refine opA (fun a' c' hc1 hc2 => ?_))
    | (show GJ _ _ _ _ _ _ _; first | (apply GJ.and; exact rfl; intro hg) | (apply GJ.or; exact rfl; intro hg) | refine GJ.t omAuto ?_ | refine GJ.f omAuto ?_ | refine GJ.ft omAuto ?_ | refine GJ.ff omAuto ?_))
  refine empty_ok ?_
  repeat (first
    | (show _ ∧ _; exact ⟨rfl, rfl, rfl⟩)
    | refine wkG ?_
    | (show OpOk _ _ _ _ _ _ _; first | refine opB (fun b => ?_) | refine opA (fun a' c' hc1 hc2 => ?_))
    | (show GJ _ _ _ _ _ _ _; first | (apply GJ.and; exact rfl; intro hg) | (apply GJ.or; exact rfl; intro hg) | refine GJ.t omAuto ?_ | refine GJ.f omAuto ?_ | refine GJ.ft omAuto ?_ | refine GJ.ff omAuto ?_))
  refine Br.cases (fun h => ?_) (fun h => ?_)
  · rw [if_pos h] at hk
    repeat (first
      | (show _ ∧ _; exact ⟨rfl, rfl, rfl⟩)
      | refine wkG ?_
      | (show OpOk _ _ _ _ _ _ _; first | refine opB (fun b => ?_) | refine opA (fun a' c' hc1 hc2 => ?_))
      | (show GJ _ _ _ _ _ _ _; first | (apply GJ.and; exact rfl; intro hg) | (apply GJ.or; exact rfl; intro hg) | refine GJ.t omAuto ?_ | refine GJ.f omAuto ?_ | refine GJ.ft omAuto ?_ | refine GJ.ff omAuto ?_))
    exact Wk.outS Sup.auto (.refl _) hk
  · rw [if_neg h] at hk
    repeat (first
      | (show _ ∧ _; exact ⟨rfl, rfl, rfl⟩)
      | refine wkG ?_
      | (show OpOk _ _ _ _ _ _ _; first | refine opB (fun b => ?_) | refine opA (fun a' c' hc1 hc2 => ?_))
      | (show GJ _ _ _ _ _ _ _; first | (apply GJ.and; exact rfl; intro hg) | (apply GJ.or; exact rfl; intro hg) | refine GJ.t omAuto ?_ | refine GJ.f omAuto ?_ | refine GJ.ft omAuto ?_ | refine GJ.ff omAuto ?_))
    exact Wk.outS Sup.auto (.refl _) hk
/-- One byte more. -/
def SetD.add (s : SetD) (c : Nat) : SetD := s.put (c / 64) (s.w (c / 64) ||| 2 ^ (c % 64))
theorem SetD.has_add {s : SetD} {c j : Nat} (hc : c < 256) (hj : j < 256) : (s.add c).has j = (s.has j || decide (j = c)) := by
  unfold SetD.has SetD.add
  rw [SetD.w_put (by omega) (by omega)]
  by_cases h : j / 64 = c / 64
  · rw [if_pos h, Nat.testBit_or, Nat.testBit_two_pow, h]
    congr 1
    rw [decide_eq_decide]
    omega
  · rw [if_neg h]
    have : ¬ j = c := fun e => h (by rw [e])
    simp [this]
theorem SetIn.add {s : SetD} {c : Nat} (hs : SetIn s) (hc : c < 256) : SetIn (s.add c) := fun k => by
  have h1 : s.w (c / 64) ||| 2 ^ (c % 64) < 2 ^ 64 := Nat.or_lt_two_pow (by have := hs (c / 64); omega) (Nat.pow_lt_pow_right (by decide) (by omega))
  have h2 := hs 0
  have h3 := hs 1
  have h4 := hs 2
  have h5 := hs 3
  unfold SetD.add
  generalize s.w (c / 64) ||| 2 ^ (c % 64) = x at h1 ⊢
  have hlt : c / 64 < 4 := by omega
  generalize c / 64 = m at hlt
  simp only [SetD.w] at h2 h3 h4 h5 ⊢
  unfold SetD.put
  repeat' split
  all_goals simp_all
theorem SetD.has_zero (c : Nat) : SetD.has ⟨0, 0, 0, 0⟩ c = false := by
  unfold SetD.has SetD.w
  repeat' split
  all_goals simp
theorem shl1_nat (i : Nat) (h : i < 64) : (1 : Int) * 2 ^ ((i : Nat) : Int).toNat % 18446744073709551616 = ((2 ^ i : Nat) : Int) := by
  rw [Int.toNat_natCast, Int.one_mul]
  have h1 : 2 ^ i < 2 ^ 64 := Nat.pow_lt_pow_right (by decide) h
  have h2 : ((2 : Int) ^ i) = ((2 ^ i : Nat) : Int) := by push_cast; rfl
  rw [h2]
  generalize 2 ^ i = q at h1
  omega
theorem QOk.andN' {ty : TypeId} {env : Env} {t yt : TypeId} {x y : Operand} {a b : Int} {K : Value → Prop} (hx : ev env x = some (.int .i64 a)) (hy : ev env y = some (.int .i64 b)) (h : (0 ≤ a ∧ a < 9223372036854775808) ∧ 0 ≤ b ∧ b < 9223372036854775808) (hk : K (.int .i64 (nand2 a b))) : QOk Try.prog (.binOp .and t x y yt) ty env ro own K :=
  QOk.pu (fun h' hs d pos af g => Pu.int2 hx hy (by simp) fun w => bits_and (k := .i64) h.1 h.2 w) hk
theorem range_ok {x y : Nat} (hx : x < 256) (hy : y < 256) (hk : ∀ s, SetIn s → (∀ c, c < 256 → s.has c = decide (x ≤ c ∧ c ≤ y)) → K (.agg (setV s).toArray) ro own) : CallOk Try.prog 69 #[.int .u8 (x : Int), .int .u8 (y : Int)] ro own K := by
  refine CallOk.intro (args := [_, _]) (rs := [_]) T_ok Try.func69 Try.call69 rfl rfl (by kernel_rfl) rfl rfl ?_
  repeat (first
    | (show _ ∧ _; exact ⟨rfl, rfl, rfl⟩)
    | refine wkG ?_
    | (show OpOk _ _ _ _ _ _ _; first | refine opB (fun b => ?_) | refine opA (fun a' c' hc1 hc2 => ?_))
    | (show GJ _ _ _ _ _ _ _; first | (apply GJ.and; exact rfl; intro hg) | (apply GJ.or; exact rfl; intro hg) | refine GJ.t omAuto ?_ | refine GJ.f omAuto ?_ | refine GJ.ft omAuto ?_ | refine GJ.ff omAuto ?_))
  rename_i br
  refine LoopOk.at (ι := Nat × SetD) Keep.auto (fun (i, u) => [(6, .int .i64 (i : Int))]) (fun (i, u) => .blk b 64 (setV u) :: .blk br 64 [.int .u64 0, .int .u64 0, .int .u64 0, .int .u64 0] :: own) (fun (i, u) => x ≤ i ∧ i ≤ 256 ∧ SetIn u ∧ (∀ c, c < 256 → u.has c = decide (x ≤ c ∧ c < i)) ∧ (i ≤ y + 1 ∨ i = x)) (fun (i, u) => 256 - i) (x, ⟨0, 0, 0, 0⟩) ?_ Sub.auto Sup.auto ?_
  · exact ⟨by omega, by omega, SetIn.zero, fun c hc => by rw [SetD.has_zero, eq_comm, decide_eq_false_iff_not]; omega, by omega⟩
  rintro ⟨i, u⟩ ⟨i1, i2, i3, i4, i5⟩
  dsimp only [List.cons_append, List.nil_append] at i1 i2 i3 i4 i5 ⊢
  repeat (first
    | (show _ ∧ _; exact ⟨rfl, rfl, rfl⟩)
    | refine wkG ?_
    | (show OpOk _ _ _ _ _ _ _; first | refine opB (fun b => ?_) | refine opA (fun a' c' hc1 hc2 => ?_))
    | (show GJ _ _ _ _ _ _ _; first | (apply GJ.and; exact rfl; intro hg) | (apply GJ.or; exact rfl; intro hg) | refine GJ.t omAuto ?_ | refine GJ.f omAuto ?_ | refine GJ.ft omAuto ?_ | refine GJ.ff omAuto ?_))
  refine Br.cases (fun hg => ?_) (fun hg => ?_)
  · have hw := i3 (i / 64)
    have e : (i : Int) / 2 ^ Int.toNat 6 = ((i / 64 : Nat) : Int) := by show (i : Int) / 64 = _; omega
    repeat (first
      | (show _ ∧ _; exact ⟨rfl, rfl, rfl⟩)
      | refine wkG ?_
      | (show OpOk _ _ _ _ _ _ _; first | refine opB (fun b => ?_) | refine opA (fun a' c' hc1 hc2 => ?_))
      | (show GJ _ _ _ _ _ _ _; first | (apply GJ.and; exact rfl; intro hg) | (apply GJ.or; exact rfl; intro hg) | refine GJ.t omAuto ?_ | refine GJ.f omAuto ?_ | refine GJ.ft omAuto ?_ | refine GJ.ff omAuto ?_))
    rw [e]
    repeat (first
      | (show _ ∧ _; exact ⟨rfl, rfl, rfl⟩)
      | refine wkG ?_
      | (show OpOk _ _ _ _ _ _ _; first | refine opB (fun b => ?_) | refine opA (fun a' c' hc1 hc2 => ?_))
      | (show GJ _ _ _ _ _ _ _; first | (apply GJ.and; exact rfl; intro hg) | (apply GJ.or; exact rfl; intro hg) | refine GJ.t omAuto ?_ | refine GJ.f omAuto ?_ | refine GJ.ft omAuto ?_ | refine GJ.ff omAuto ?_))
    refine QOk.load rfl rfl (Ld.setAt u rfl (k := i / 64) (by omega) (by omega)) ?_
    repeat (first
      | (show _ ∧ _; exact ⟨rfl, rfl, rfl⟩)
      | refine wkG ?_
      | (show OpOk _ _ _ _ _ _ _; first | refine opB (fun b => ?_) | refine opA (fun a' c' hc1 hc2 => ?_))
      | (show GJ _ _ _ _ _ _ _; first | (apply GJ.and; exact rfl; intro hg) | (apply GJ.or; exact rfl; intro hg) | refine GJ.t omAuto ?_ | refine GJ.f omAuto ?_ | refine GJ.ft omAuto ?_ | refine GJ.ff omAuto ?_))
    refine QOk.andN' rfl rfl ⟨by omega, by omega⟩ ?_
    repeat (first
      | (show _ ∧ _; exact ⟨rfl, rfl, rfl⟩)
      | refine wkG ?_
      | (show OpOk _ _ _ _ _ _ _; first | refine opB (fun b => ?_) | refine opA (fun a' c' hc1 hc2 => ?_))
      | (show GJ _ _ _ _ _ _ _; first | (apply GJ.and; exact rfl; intro hg) | (apply GJ.or; exact rfl; intro hg) | refine GJ.t omAuto ?_ | refine GJ.f omAuto ?_ | refine GJ.ft omAuto ?_ | refine GJ.ff omAuto ?_))
    rw [and63]
    refine ⟨by omega, ?_⟩
    rw [shl1_nat _ (by omega)]
    have hp : 2 ^ (i % 64) < 18446744073709551616 := Nat.pow_lt_pow_right (a := 2) (m := i % 64) (n := 64) (by decide) (by omega)
    have hadd : u.add i = u.put (i / 64) (u.w (i / 64) ||| 2 ^ (i % 64)) := rfl
    generalize 2 ^ (i % 64) = q at hp hadd ⊢
    repeat (first
      | (show _ ∧ _; exact ⟨rfl, rfl, rfl⟩)
      | refine wkG ?_
      | (show OpOk _ _ _ _ _ _ _; first | refine opB (fun b => ?_) | refine opA (fun a' c' hc1 hc2 => ?_))
      | (show GJ _ _ _ _ _ _ _; first | (apply GJ.and; exact rfl; intro hg) | (apply GJ.or; exact rfl; intro hg) | refine GJ.t omAuto ?_ | refine GJ.f omAuto ?_ | refine GJ.ft omAuto ?_ | refine GJ.ff omAuto ?_))
    refine storeSet (k := i / 64) (w := u.w (i / 64) ||| q) u rfl rfl rfl rfl rfl (by omega) (by omega) ?_
    rw [← hadd]
    repeat (first
      | (show _ ∧ _; exact ⟨rfl, rfl, rfl⟩)
      | refine wkG ?_
      | (show OpOk _ _ _ _ _ _ _; first | refine opB (fun b => ?_) | refine opA (fun a' c' hc1 hc2 => ?_))
      | (show GJ _ _ _ _ _ _ _; first | (apply GJ.and; exact rfl; intro hg) | (apply GJ.or; exact rfl; intro hg) | refine GJ.t omAuto ?_ | refine GJ.f omAuto ?_ | refine GJ.ft omAuto ?_ | refine GJ.ff omAuto ?_))
    refine Wk.id ⟨(i + 1, u.add i), ⟨rfl, ?_⟩, ?_, Sub.auto, Sup.auto⟩
    all_goals try dsimp only
    · refine ⟨by omega, by omega, i3.add (by omega), fun c hc => ?_, by omega⟩
      rw [SetD.has_add (by omega) hc, i4 c hc, Bool.eq_iff_iff]
      simp only [Bool.or_eq_true, decide_eq_true_iff]
      omega
    · omega
  · repeat (first
      | (show _ ∧ _; exact ⟨rfl, rfl, rfl⟩)
      | refine wkG ?_
      | (show OpOk _ _ _ _ _ _ _; first | refine opB (fun b => ?_) | refine opA (fun a' c' hc1 hc2 => ?_))
      | (show GJ _ _ _ _ _ _ _; first | (apply GJ.and; exact rfl; intro hg) | (apply GJ.or; exact rfl; intro hg) | refine GJ.t omAuto ?_ | refine GJ.f omAuto ?_ | refine GJ.ft omAuto ?_ | refine GJ.ff omAuto ?_))
    refine Wk.outS Sup.auto (.refl _) (hk u i3 (fun c hc => ?_))
    rw [i4 c hc, decide_eq_decide]
    omega
theorem of_ok {al : Option Addr} {cl : Nat} {l : List UInt8} (hl : Bys ro al l.length cl l) (hn : l.length ≤ 100000) (hk : ∀ s, SetIn s → (∀ c : UInt8, s.has c.toNat = decide (c ∈ l)) → K (.agg (setV s).toArray) ro own) : CallOk Try.prog 64 #[.slice al l.length cl] ro own K := by
  refine CallOk.intro (args := [_]) (rs := [_]) T_ok Try.func64 Try.call64 rfl rfl (by kernel_rfl) rfl rfl ?_
  repeat (first
    | (show _ ∧ _; exact ⟨rfl, rfl, rfl⟩)
    | refine wkG ?_
    | (show OpOk _ _ _ _ _ _ _; first | refine opB (fun b => ?_) | refine opA (fun a' c' hc1 hc2 => ?_))
    | (show GJ _ _ _ _ _ _ _; first | (apply GJ.and; exact rfl; intro hg) | (apply GJ.or; exact rfl; intro hg) | refine GJ.t omAuto ?_ | refine GJ.f omAuto ?_ | refine GJ.ft omAuto ?_ | refine GJ.ff omAuto ?_))
  rename_i br
  refine LoopOk.at (ι := Nat × SetD) Keep.auto (fun (i, u) => [(8, .int .i64 (i : Int))]) (fun (i, u) => .blk b 64 (setV u) :: .blk br 64 [.int .u64 0, .int .u64 0, .int .u64 0, .int .u64 0] :: own) (fun (i, u) => i ≤ l.length ∧ SetIn u ∧ (∀ c : UInt8, u.has c.toNat = decide (c ∈ l.take i))) (fun (i, u) => l.length - i) (0, ⟨0, 0, 0, 0⟩) ?_ Sub.auto Sup.auto ?_
  · exact ⟨by omega, SetIn.zero, fun c => by rw [SetD.has_zero]; simp⟩
  rintro ⟨i, u⟩ ⟨i1, i3, i4⟩
  dsimp only [List.cons_append, List.nil_append] at i1 i3 i4 ⊢
  repeat (first
    | (show _ ∧ _; exact ⟨rfl, rfl, rfl⟩)
    | refine wkG ?_
    | (show OpOk _ _ _ _ _ _ _; first | refine opB (fun b => ?_) | refine opA (fun a' c' hc1 hc2 => ?_))
    | (show GJ _ _ _ _ _ _ _; first | (apply GJ.and; exact rfl; intro hg) | (apply GJ.or; exact rfl; intro hg) | refine GJ.t omAuto ?_ | refine GJ.f omAuto ?_ | refine GJ.ft omAuto ?_ | refine GJ.ff omAuto ?_))
  refine Br.cases (fun hg => ?_) (fun hg => ?_)
  · have hil : i < l.length := by omega
    have htk : l.take (i + 1) = l.take i ++ [l[i]] := by rw [List.take_add_one, List.getElem?_eq_getElem hil]; rfl
    have hgb : l[(i : Int).toNat]! = l[i] := by rw [Int.toNat_natCast, List.getElem!_eq_getElem?_getD, List.getElem?_eq_getElem hil]; rfl
    repeat (first
      | (show _ ∧ _; exact ⟨rfl, rfl, rfl⟩)
      | refine wkG ?_
      | (show OpOk _ _ _ _ _ _ _; first | refine opB (fun b => ?_) | refine opA (fun a' c' hc1 hc2 => ?_))
      | (show GJ _ _ _ _ _ _ _; first | (apply GJ.and; exact rfl; intro hg) | (apply GJ.or; exact rfl; intro hg) | refine GJ.t omAuto ?_ | refine GJ.f omAuto ?_ | refine GJ.ft omAuto ?_ | refine GJ.ff omAuto ?_))
    rw [hgb]
    clear hgb
    generalize l[i] = c at htk ⊢
    have hc := c.toNat_lt
    have hw := i3 (c.toNat / 64)
    have e : (c.toNat : Int) / 2 ^ Int.toNat 6 = ((c.toNat / 64 : Nat) : Int) := by show (c.toNat : Int) / 64 = _; omega
    rw [e]
    repeat (first
      | (show _ ∧ _; exact ⟨rfl, rfl, rfl⟩)
      | refine wkG ?_
      | (show OpOk _ _ _ _ _ _ _; first | refine opB (fun b => ?_) | refine opA (fun a' c' hc1 hc2 => ?_))
      | (show GJ _ _ _ _ _ _ _; first | (apply GJ.and; exact rfl; intro hg) | (apply GJ.or; exact rfl; intro hg) | refine GJ.t omAuto ?_ | refine GJ.f omAuto ?_ | refine GJ.ft omAuto ?_ | refine GJ.ff omAuto ?_))
    refine OpOk.load rfl rfl (Ld.setAt u rfl (k := c.toNat / 64) (by omega) (by omega)) ?_
    repeat (first
      | (show _ ∧ _; exact ⟨rfl, rfl, rfl⟩)
      | refine wkG ?_
      | (show OpOk _ _ _ _ _ _ _; first | refine opB (fun b => ?_) | refine opA (fun a' c' hc1 hc2 => ?_))
      | (show GJ _ _ _ _ _ _ _; first | (apply GJ.and; exact rfl; intro hg) | (apply GJ.or; exact rfl; intro hg) | refine GJ.t omAuto ?_ | refine GJ.f omAuto ?_ | refine GJ.ft omAuto ?_ | refine GJ.ff omAuto ?_))
    rw [and63]
    refine ⟨by omega, ?_⟩
    rw [shl1_nat _ (by omega)]
    have hp : 2 ^ (c.toNat % 64) < 18446744073709551616 := Nat.pow_lt_pow_right (a := 2) (m := c.toNat % 64) (n := 64) (by decide) (by omega)
    have hadd : u.add c.toNat = u.put (c.toNat / 64) (u.w (c.toNat / 64) ||| 2 ^ (c.toNat % 64)) := rfl
    generalize 2 ^ (c.toNat % 64) = q at hp hadd ⊢
    repeat (first
      | (show _ ∧ _; exact ⟨rfl, rfl, rfl⟩)
      | refine wkG ?_
      | (show OpOk _ _ _ _ _ _ _; first | refine opB (fun b => ?_) | refine opA (fun a' c' hc1 hc2 => ?_))
      | (show GJ _ _ _ _ _ _ _; first | (apply GJ.and; exact rfl; intro hg) | (apply GJ.or; exact rfl; intro hg) | refine GJ.t omAuto ?_ | refine GJ.f omAuto ?_ | refine GJ.ft omAuto ?_ | refine GJ.ff omAuto ?_))
    refine storeSet (k := c.toNat / 64) (w := u.w (c.toNat / 64) ||| q) u rfl rfl rfl rfl rfl (by omega) (by omega) ?_
    rw [← hadd]
    repeat (first
      | (show _ ∧ _; exact ⟨rfl, rfl, rfl⟩)
      | refine wkG ?_
      | (show OpOk _ _ _ _ _ _ _; first | refine opB (fun b => ?_) | refine opA (fun a' c' hc1 hc2 => ?_))
      | (show GJ _ _ _ _ _ _ _; first | (apply GJ.and; exact rfl; intro hg) | (apply GJ.or; exact rfl; intro hg) | refine GJ.t omAuto ?_ | refine GJ.f omAuto ?_ | refine GJ.ft omAuto ?_ | refine GJ.ff omAuto ?_))
    refine Wk.id ⟨(i + 1, u.add c.toNat), ⟨rfl, ?_⟩, ?_, Sub.auto, Sup.auto⟩
    all_goals try dsimp only
    · refine ⟨by omega, i3.add (by omega), fun j => ?_⟩
      rw [SetD.has_add (by omega) j.toNat_lt, i4 j, htk, Bool.eq_iff_iff]
      simp only [Bool.or_eq_true, decide_eq_true_iff, List.mem_append, List.mem_singleton]
      exact or_congr_right (UInt8.toNat_inj)
    · omega
  · obtain rfl : i = l.length := by omega
    rw [List.take_length] at i4
    repeat (first
      | (show _ ∧ _; exact ⟨rfl, rfl, rfl⟩)
      | refine wkG ?_
      | (show OpOk _ _ _ _ _ _ _; first | refine opB (fun b => ?_) | refine opA (fun a' c' hc1 hc2 => ?_))
      | (show GJ _ _ _ _ _ _ _; first | (apply GJ.and; exact rfl; intro hg) | (apply GJ.or; exact rfl; intro hg) | refine GJ.t omAuto ?_ | refine GJ.f omAuto ?_ | refine GJ.ft omAuto ?_ | refine GJ.ff omAuto ?_))
    exact Wk.outS Sup.auto (.refl _) (hk u i3 i4)
end
end Go.Proofs.Ytkpdnpcmeadggaa
