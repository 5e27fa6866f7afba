/- The lowest bit, by multiplying and a table. -/
import Derived.Test.YtkpdnpcmeadggaaC3
namespace Go.Proofs.Ytkpdnpcmeadggaa
open Go Go.E
set_option linter.unusedVariables false
set_option maxRecDepth 10000
theorem odd_part : ∀ (n x : Nat), x ≤ n → x ≠ 0 → ∃ k m, x = 2 ^ (k + 1) * m + 2 ^ k
  | 0, x, h, h0 => absurd (by omega) h0
  | n + 1, x, h, h0 => by
    by_cases ho : x % 2 = 1
    · exact ⟨0, x / 2, by simp; omega⟩
    · obtain ⟨k, m, e⟩ := odd_part n (x / 2) (by omega) (by omega)
      refine ⟨k + 1, m, ?_⟩
      have h2 : x = 2 * (x / 2) := by omega
      rw [h2, e, Nat.pow_succ 2 (k + 1), Nat.mul_add, Nat.pow_succ 2 k, ← Nat.mul_assoc]
      congr 1
      · congr 1
        omega
      · omega
theorem low_bit {x : Nat} (h0 : x ≠ 0) (h : x < 18446744073709551616) : ∃ k, k < 64 ∧ x.testBit k = true ∧ (∀ i, i < k → x.testBit i = false) ∧ x &&& (18446744073709551616 - x) = 2 ^ k := by
  obtain ⟨k, m, e⟩ := odd_part x x (Nat.le_refl _) h0
  have hp : 2 ^ k < 2 ^ (k + 1) := Nat.pow_lt_pow_right (by decide) (by omega)
  have hp0 : 0 < 2 ^ k := Nat.two_pow_pos k
  have hk : k < 64 := by
    rcases Nat.lt_or_ge k 64 with hk | hk
    · exact hk
    · have : 2 ^ 64 ≤ 2 ^ k := Nat.pow_le_pow_right (by decide) hk
      omega
  have tb : ∀ i, x.testBit i = if i < k + 1 then decide (k = i) else m.testBit (i - (k + 1)) := fun i => by
    rw [e, Nat.testBit_two_pow_mul_add _ hp, Nat.testBit_two_pow]
  have e1 : x - 1 = 2 ^ (k + 1) * m + (2 ^ k - 1) := by omega
  have tb1 : ∀ i, (x - 1).testBit i = if i < k + 1 then decide (i < k) else m.testBit (i - (k + 1)) := fun i => by
    rw [e1, Nat.testBit_two_pow_mul_add _ (by omega), Nat.testBit_two_pow_sub_one]
  refine ⟨k, hk, by rw [tb, if_pos (by omega)]; simp, fun i hi => by rw [tb, if_pos (by omega)]; simp; omega, ?_⟩
  apply Nat.eq_of_testBit_eq
  intro i
  rw [Nat.testBit_and, show 18446744073709551616 - x = 2 ^ 64 - ((x - 1) + 1) by omega, Nat.testBit_two_pow_sub_succ (by omega), tb, tb1, Nat.testBit_two_pow]
  by_cases hi : i < k + 1
  · rw [if_pos hi, if_pos hi]
    by_cases hik : k = i
    · subst hik; simp [hk]
    · simp [hik]
  · rw [if_neg hi, if_neg hi]
    have : ¬ k = i := by omega
    simp [this]
    exact fun a _ => a
def debr : List Int := [0, 1, 56, 2, 57, 49, 28, 3, 61, 58, 42, 50, 38, 29, 17, 4, 62, 47, 59, 36, 45, 43, 51, 22, 53, 39, 33, 30, 24, 18, 12, 5, 63, 55, 48, 27, 60, 41, 37, 16, 46, 35, 44, 21, 52, 32, 23, 11, 54, 26, 40, 15, 34, 20, 31, 10, 25, 14, 19, 9, 13, 8, 7, 6]
theorem debr_spec : ∀ k : Nat, k < 64 → debr.getD (2 ^ k * 285870213051353865 % 18446744073709551616 / 288230376151711744) 0 = (k : Int) ∧ 2 ^ k * 285870213051353865 % 18446744073709551616 / 288230376151711744 < 64 := by decide +kernel
/-- The table lies where it lies. -/
structure TabOk (ro : Ro) : Prop where
  cells : ∃ cs t fr, ro 0 = some (.cells cs t fr) ∧ ∀ i, i < 64 → cs[i]? = some (.int .u8 (debr.getD i 0))
theorem TabOk.le {ro ro' : Ro} (h : TabOk ro) (hl : Le ro ro') : TabOk ro' := by
  obtain ⟨cs, t, fr, h1, h2⟩ := h.cells
  exact ⟨cs, t, fr, hl.le _ _ h1, h2⟩
theorem TabOk.ld {ro : Ro} {own : Chs} {o i : Nat} (h : TabOk ro) (ho : o = i) (hi : i < 64) : Ld ro own 0 o (.int .u8 (debr.getD i 0)) := fun hp hs => by
  subst ho
  obtain ⟨cs, t, fr, h1, h2⟩ := h.cells
  have := hs.last _ _ h1
  rw [cellAt_of this]; exact h2 o hi
/-- How many bits are below the lowest one. -/
def Low (x k : Nat) : Prop := k < 64 ∧ x.testBit k = true ∧ ∀ i, i < k → x.testBit i = false
section
variable {ro : Ro} {own r : Chs} {K : Value → Ro → Chs → Prop} {g : Chunk → Chs}
end
end Go.Proofs.Ytkpdnpcmeadggaa
