/- How many bits a number has: the count by halves is the count bit by bit. No program in sight. -/
import Derived.Test.YtkpdnpcmeadggaaC2
namespace Go.Proofs.Ytkpdnpcmeadggaa
open Go Go.E
set_option linter.unusedVariables false
/-- The bits of a number of n bits. -/
def pc : Nat → Nat → Nat
  | 0, _ => 0
  | n + 1, x => x % 2 + pc n (x / 2)
/-- Byte by byte. -/
def Dg (f : Nat → Nat) : Nat → Nat → Nat
  | 0, _ => 0
  | n + 1, x => f (x % 256) + 256 * Dg f n (x / 256)
def rep (m : Nat) : Nat → Nat
  | 0 => 0
  | n + 1 => m + 256 * rep m n
theorem and_split {u v p q : Nat} (hu : u < 256) (hp : p < 256) : (u + 256 * v) &&& (p + 256 * q) = (u &&& p) + 256 * (v &&& q) := by
  apply Nat.eq_of_testBit_eq
  intro i
  have e1 : u + 256 * v = 2 ^ 8 * v + u := by omega
  have e2 : p + 256 * q = 2 ^ 8 * q + p := by omega
  have e3 : (u &&& p) + 256 * (v &&& q) = 2 ^ 8 * (v &&& q) + (u &&& p) := by omega
  have h3 : u &&& p < 2 ^ 8 := Nat.and_lt_two_pow _ hp
  rw [e1, e2, e3, Nat.testBit_and, Nat.testBit_two_pow_mul_add _ hu, Nat.testBit_two_pow_mul_add _ hp, Nat.testBit_two_pow_mul_add _ h3]
  split <;> rw [Nat.testBit_and]
def f1 (b : Nat) : Nat := (b / 2 &&& 85) + (b &&& 85)
def f2 (b : Nat) : Nat := (b / 4 &&& 51) + (b &&& 51)
def f3 (b : Nat) : Nat := (b / 16 + b) &&& 15
theorem f1_lt : ∀ b, b < 256 → f1 b < 256 := by decide +kernel
theorem f2_lt : ∀ b, b < 256 → f2 b < 256 := by decide +kernel
theorem st1 : ∀ (n x : Nat), x < 256 ^ n → (x / 2 &&& rep 85 n) + (x &&& rep 85 n) = Dg f1 n x
  | 0, x, h => by simp [rep, Dg]
  | n + 1, x, h => by
    have hy : x / 256 < 256 ^ n := by rw [Nat.pow_succ] at h; omega
    have ih := st1 n (x / 256) hy
    have e1 : x / 2 = (x % 256 / 2 + 128 * (x / 256 % 2)) + 256 * (x / 256 / 2) := by omega
    have e2 : x = x % 256 + 256 * (x / 256) := by omega
    have k : (x % 256 / 2 + 128 * (x / 256 % 2)) &&& 85 = x % 256 / 2 &&& 85 := by
      have : ∀ b, b < 256 → ∀ c, c < 2 → (b / 2 + 128 * c) &&& 85 = b / 2 &&& 85 := by decide +kernel
      exact this _ (by omega) _ (by omega)
    rw [Dg, rep, ← ih]
    generalize hb : x % 256 = b at *
    generalize hc : x / 256 = y at *
    rw [e1, e2, and_split (by omega) (by omega), and_split (by omega) (by omega), k]
    unfold f1
    omega
theorem st2 : ∀ (n x : Nat), x < 256 ^ n → (x / 4 &&& rep 51 n) + (x &&& rep 51 n) = Dg f2 n x
  | 0, x, h => by simp [rep, Dg]
  | n + 1, x, h => by
    have hy : x / 256 < 256 ^ n := by rw [Nat.pow_succ] at h; omega
    have ih := st2 n (x / 256) hy
    have e1 : x / 4 = (x % 256 / 4 + 64 * (x / 256 % 4)) + 256 * (x / 256 / 4) := by omega
    have e2 : x = x % 256 + 256 * (x / 256) := by omega
    have k : (x % 256 / 4 + 64 * (x / 256 % 4)) &&& 51 = x % 256 / 4 &&& 51 := by
      have : ∀ b, b < 256 → ∀ c, c < 4 → (b / 4 + 64 * c) &&& 51 = b / 4 &&& 51 := by decide +kernel
      exact this _ (by omega) _ (by omega)
    rw [Dg, rep, ← ih]
    generalize hb : x % 256 = b at *
    generalize hc : x / 256 = y at *
    rw [e1, e2, and_split (by omega) (by omega), and_split (by omega) (by omega), k]
    unfold f2
    omega
def Gd : Nat → Nat → Prop
  | 0, _ => True
  | n + 1, x => (x % 256 % 16 ≤ 4 ∧ x % 256 / 16 ≤ 4) ∧ Gd n (x / 256)
theorem Gd.low : ∀ {n x : Nat}, x < 256 ^ n → Gd n x → x % 16 ≤ 4
  | 0, x, h, _ => by simp at h; omega
  | n + 1, x, _, h => by have := h.1.1; omega
theorem st3 : ∀ (n x : Nat), x < 256 ^ n → Gd n x → (x / 16 + x) &&& rep 15 n = Dg f3 n x
  | 0, x, h, _ => by simp [rep, Dg]
  | n + 1, x, h, hg => by
    have hy : x / 256 < 256 ^ n := by rw [Nat.pow_succ] at h; omega
    have ih := st3 n (x / 256) hy hg.2
    have hl := hg.2.low hy
    have hb1 := hg.1
    have e1 : x / 16 + x = (x % 256 / 16 + x % 256 + 16 * (x / 256 % 16)) + 256 * (x / 256 / 16 + x / 256) := by omega
    have k : (x % 256 / 16 + x % 256 + 16 * (x / 256 % 16)) &&& 15 = (x % 256 / 16 + x % 256) &&& 15 := by
      have := Nat.and_two_pow_sub_one_eq_mod (x % 256 / 16 + x % 256 + 16 * (x / 256 % 16)) 4
      have h2 := Nat.and_two_pow_sub_one_eq_mod (x % 256 / 16 + x % 256) 4
      simp only [Nat.reducePow, Nat.reduceSub] at this h2
      rw [this, h2]; omega
    rw [Dg, rep, ← ih, e1, and_split (by omega) (by omega), k]
    rfl
theorem Dg_lt {f : Nat → Nat} (hf : ∀ b, b < 256 → f b < 256) : ∀ (n x : Nat), Dg f n x < 256 ^ n
  | 0, x => by simp [Dg]
  | n + 1, x => by
    have := Dg_lt hf n (x / 256)
    have h := hf (x % 256) (by omega)
    rw [Dg, Nat.pow_succ]; omega
theorem Dg_comp {f g : Nat → Nat} (hf : ∀ b, b < 256 → f b < 256) : ∀ (n x : Nat), Dg g n (Dg f n x) = Dg (fun b => g (f b)) n x
  | 0, x => rfl
  | n + 1, x => by
    have h := hf (x % 256) (by omega)
    rw [Dg, Dg, Dg, ← Dg_comp hf n (x / 256)]
    have e1 : (f (x % 256) + 256 * Dg f n (x / 256)) % 256 = f (x % 256) := by omega
    have e2 : (f (x % 256) + 256 * Dg f n (x / 256)) / 256 = Dg f n (x / 256) := by omega
    rw [e1, e2]
theorem Gd_Dg : ∀ (n x : Nat), Gd n (Dg (fun b => f2 (f1 b)) n x)
  | 0, x => trivial
  | n + 1, x => by
    have h : ∀ b, b < 256 → f2 (f1 b) % 16 ≤ 4 ∧ f2 (f1 b) / 16 ≤ 4 ∧ f2 (f1 b) < 256 := by decide +kernel
    obtain ⟨h1, h2, h3⟩ := h (x % 256) (by omega)
    rw [Dg, Gd]
    have e1 : (f2 (f1 (x % 256)) + 256 * Dg (fun b => f2 (f1 b)) n (x / 256)) % 256 = f2 (f1 (x % 256)) := by omega
    have e2 : (f2 (f1 (x % 256)) + 256 * Dg (fun b => f2 (f1 b)) n (x / 256)) / 256 = Dg (fun b => f2 (f1 b)) n (x / 256) := by omega
    rw [e1, e2]
    exact ⟨⟨h1, h2⟩, Gd_Dg n _⟩
theorem pc_add : ∀ (m n x : Nat), pc (m + n) x = pc m (x % 2 ^ m) + pc n (x / 2 ^ m)
  | 0, n, x => by simp [pc]
  | m + 1, n, x => by
    have ih := pc_add m n (x / 2)
    rw [show m + 1 + n = (m + n) + 1 by omega, pc, pc, ih]
    have e1 : x % 2 ^ (m + 1) % 2 = x % 2 := by rw [Nat.pow_succ, Nat.mul_comm, Nat.mod_mul_right_mod]
    have e2 : x % 2 ^ (m + 1) / 2 = x / 2 % 2 ^ m := by rw [Nat.pow_succ, Nat.mul_comm, Nat.mod_mul_right_div_self]
    have e3 : x / 2 / 2 ^ m = x / 2 ^ (m + 1) := by rw [Nat.div_div_eq_div_mul, Nat.pow_succ, Nat.mul_comm]
    rw [e1, e2, e3]; omega
def p8 (b : Nat) : Nat := f3 (f2 (f1 b))
theorem p8_pc : ∀ b, b < 256 → p8 b = pc 8 b ∧ p8 b ≤ 8 := by decide +kernel
def sumD : Nat → Nat → Nat
  | 0, _ => 0
  | n + 1, x => p8 (x % 256) + sumD n (x / 256)
theorem pc_sum : ∀ (n x : Nat), pc (8 * n) x = sumD n x
  | 0, x => rfl
  | n + 1, x => by
    rw [show 8 * (n + 1) = 8 + 8 * n by omega, pc_add, sumD, ← pc_sum n, (p8_pc _ (by omega)).1]
set_option maxHeartbeats 4000000 in
theorem ones_spec {x : Nat} (h : x < 18446744073709551616) : ∃ a1 a2 a3, (x / 2 &&& 6148914691236517205) + (x &&& 6148914691236517205) = a1 ∧ a1 < 18446744073709551616 ∧ (a1 / 4 &&& 3689348814741910323) + (a1 &&& 3689348814741910323) = a2 ∧ a2 + a2 / 16 < 18446744073709551616 ∧
    (a2 / 16 + a2) &&& 1085102592571150095 = a3 ∧ a3 ≤ 578721382704613384 ∧ (a3 + a3 / 256 + (a3 + a3 / 256) / 65536 + (a3 + a3 / 256 + (a3 + a3 / 256) / 65536) / 4294967296) % 128 = pc 64 x ∧ pc 64 x ≤ 64 := by
  have h8 : x < 256 ^ 8 := h
  have hf1 := f1_lt
  have hf2 : ∀ b, b < 256 → (fun b => f2 (f1 b)) b < 256 := fun b hb => f2_lt _ (f1_lt b hb)
  refine ⟨Dg f1 8 x, Dg (fun b => f2 (f1 b)) 8 x, Dg p8 8 x, st1 8 x h8, Dg_lt hf1 8 x, ?_, ?_, ?_, ?_, ?_⟩
  · rw [← Dg_comp hf1]; exact st2 8 _ (Dg_lt hf1 8 x)
  · have := Gd_Dg 8 x
    have hlt := Dg_lt hf2 8 x
    generalize Dg (fun b => f2 (f1 b)) 8 x = y at this hlt
    simp only [Gd] at this
    omega
  · have := st3 8 _ (Dg_lt hf2 8 x) (Gd_Dg 8 x)
    rw [Dg_comp hf2] at this
    exact this
  all_goals
    have e : pc 64 x = sumD 8 x := pc_sum 8 x
    have g := fun b => (p8_pc (b % 256) (by omega)).2
    have g0 := g x
    have g1 := g (x / 256)
    have g2 := g (x / 256 / 256)
    have g3 := g (x / 256 / 256 / 256)
    have g4 := g (x / 256 / 256 / 256 / 256)
    have g5 := g (x / 256 / 256 / 256 / 256 / 256)
    have g6 := g (x / 256 / 256 / 256 / 256 / 256 / 256)
    have g7 := g (x / 256 / 256 / 256 / 256 / 256 / 256 / 256)
    clear g
    simp only [sumD, Nat.add_zero] at e
    simp only [Dg, Nat.mul_zero, Nat.add_zero]
    try rw [e]
    clear e
    generalize p8 (x % 256) = q0 at *
    generalize p8 (x / 256 % 256) = q1 at *
    generalize p8 (x / 256 / 256 % 256) = q2 at *
    generalize p8 (x / 256 / 256 / 256 % 256) = q3 at *
    generalize p8 (x / 256 / 256 / 256 / 256 % 256) = q4 at *
    generalize p8 (x / 256 / 256 / 256 / 256 / 256 % 256) = q5 at *
    generalize p8 (x / 256 / 256 / 256 / 256 / 256 / 256 % 256) = q6 at *
    generalize p8 (x / 256 / 256 / 256 / 256 / 256 / 256 / 256 % 256) = q7 at *
    clear h h8 hf1 hf2
  · omega
  · refine ⟨?_, by omega⟩
    have s1 : (q0 + 256 * (q1 + 256 * (q2 + 256 * (q3 + 256 * (q4 + 256 * (q5 + 256 * (q6 + 256 * (q7)))))))) / 256 = q1 + 256 * (q2 + 256 * (q3 + 256 * (q4 + 256 * (q5 + 256 * (q6 + 256 * (q7)))))) := by omega
    have s2 : (q0 + 256 * (q1 + 256 * (q2 + 256 * (q3 + 256 * (q4 + 256 * (q5 + 256 * (q6 + 256 * (q7)))))))) + (q1 + 256 * (q2 + 256 * (q3 + 256 * (q4 + 256 * (q5 + 256 * (q6 + 256 * (q7))))))) = (q0 + q1) + 256 * ((q1 + q2) + 256 * ((q2 + q3) + 256 * ((q3 + q4) + 256 * ((q4 + q5) + 256 * ((q5 + q6) + 256 * ((q6 + q7) + 256 * (q7))))))) := by omega
    have s3 : ((q0 + q1) + 256 * ((q1 + q2) + 256 * ((q2 + q3) + 256 * ((q3 + q4) + 256 * ((q4 + q5) + 256 * ((q5 + q6) + 256 * ((q6 + q7) + 256 * (q7)))))))) / 65536 = (q2 + q3) + 256 * ((q3 + q4) + 256 * ((q4 + q5) + 256 * ((q5 + q6) + 256 * ((q6 + q7) + 256 * (q7))))) := by omega
    have s4 : ((q0 + q1) + 256 * ((q1 + q2) + 256 * ((q2 + q3) + 256 * ((q3 + q4) + 256 * ((q4 + q5) + 256 * ((q5 + q6) + 256 * ((q6 + q7) + 256 * (q7)))))))) + ((q2 + q3) + 256 * ((q3 + q4) + 256 * ((q4 + q5) + 256 * ((q5 + q6) + 256 * ((q6 + q7) + 256 * (q7)))))) = ((q0 + q1) + (q2 + q3)) + 256 * (((q1 + q2) + (q3 + q4)) + 256 * (((q2 + q3) + (q4 + q5)) + 256 * (((q3 + q4) + (q5 + q6)) + 256 * (((q4 + q5) + (q6 + q7)) + 256 * (((q5 + q6) + q7) + 256 * ((q6 + q7) + 256 * (q7))))))) := by omega
    have s5 : (((q0 + q1) + (q2 + q3)) + 256 * (((q1 + q2) + (q3 + q4)) + 256 * (((q2 + q3) + (q4 + q5)) + 256 * (((q3 + q4) + (q5 + q6)) + 256 * (((q4 + q5) + (q6 + q7)) + 256 * (((q5 + q6) + q7) + 256 * ((q6 + q7) + 256 * (q7)))))))) / 4294967296 = ((q4 + q5) + (q6 + q7)) + 256 * (((q5 + q6) + q7) + 256 * ((q6 + q7) + 256 * (q7))) := by omega
    have s6 : (((q0 + q1) + (q2 + q3)) + 256 * (((q1 + q2) + (q3 + q4)) + 256 * (((q2 + q3) + (q4 + q5)) + 256 * (((q3 + q4) + (q5 + q6)) + 256 * (((q4 + q5) + (q6 + q7)) + 256 * (((q5 + q6) + q7) + 256 * ((q6 + q7) + 256 * (q7)))))))) + (((q4 + q5) + (q6 + q7)) + 256 * (((q5 + q6) + q7) + 256 * ((q6 + q7) + 256 * (q7)))) = (((q0 + q1) + (q2 + q3)) + ((q4 + q5) + (q6 + q7))) + 256 * ((((q1 + q2) + (q3 + q4)) + ((q5 + q6) + q7)) + 256 * ((((q2 + q3) + (q4 + q5)) + (q6 + q7)) + 256 * ((((q3 + q4) + (q5 + q6)) + q7) + 256 * (((q4 + q5) + (q6 + q7)) + 256 * (((q5 + q6) + q7) + 256 * ((q6 + q7) + 256 * (q7))))))) := by omega
    rw [s1, s2, s3, s4, s5, s6]
    clear s1 s2 s3 s4 s5 s6
    omega
end Go.Proofs.Ytkpdnpcmeadggaa
