/- The law OctetNumbers: plain facts on numbers of so many bytes. -/
import Derived.Test.YtpajhgnkagifbaaL01a
namespace Go.Proofs.Ytpajhgnkagifbaa
open Go Go.E
set_option linter.unusedVariables false

theorem most_nat (w : Nat) (hw : 1 ≤ w ∧ w ≤ 8) : most (w : Int) = 256 ^ w - 1 := by
  unfold most
  rw [if_pos (by omega)]
  simp
theorem pow256 (w : Nat) (hw : 1 ≤ w ∧ w ≤ 8) : 256 ^ w = 256 ^ (w - 1) * 256 ∧ 0 < 256 ^ (w - 1) ∧ 256 ^ (w - 1) ≤ 72057594037927936 := by
  refine ⟨?_, Nat.pow_pos (by omega), ?_⟩
  · rw [← Nat.pow_succ]; congr 1; omega
  · exact Nat.le_trans (Nat.pow_le_pow_right (by omega) (show w - 1 ≤ 7 by omega)) (by decide)
/-- The number of so many digits, the lowest first. -/
theorem num_digits (n : Nat) : ∀ w, num ((List.range w).map fun i => UInt8.ofNat (n / 2 ^ (8 * i))).reverse = n % 256 ^ w
  | 0 => by simp [num, Nat.mod_one]
  | w + 1 => by
    rw [List.range_succ, List.map_append, List.reverse_append]
    have ih := num_digits n w
    have key : ∀ (l : List UInt8) (a : Nat), l.foldl (fun a c => a * 256 + c.toNat) a = a * 256 ^ l.length + num l := by
      intro l
      induction l with
      | nil => intro a; simp [num]
      | cons c l ih =>
        intro a
        simp only [List.foldl_cons, num, List.length_cons]
        rw [ih, ih (0 * 256 + c.toNat)]
        rw [Nat.pow_succ]
        simp only [Nat.zero_mul, Nat.zero_add, Nat.add_mul]
        rw [Nat.mul_assoc, Nat.mul_comm 256]
        omega
    simp only [List.map_cons, List.map_nil, List.reverse_cons, List.reverse_nil, List.nil_append, List.singleton_append]
    have : num (UInt8.ofNat (n / 2 ^ (8 * w)) :: ((List.range w).map fun i => UInt8.ofNat (n / 2 ^ (8 * i))).reverse) = (UInt8.ofNat (n / 2 ^ (8 * w))).toNat * 256 ^ w + num ((List.range w).map fun i => UInt8.ofNat (n / 2 ^ (8 * i))).reverse := by
      show List.foldl _ _ _ = _
      rw [List.foldl_cons, key]
      simp
    rw [this, ih]
    have e : (2 : Nat) ^ (8 * w) = 256 ^ w := by rw [Nat.pow_mul]
    rw [e, Nat.pow_succ, Nat.mod_mul, UInt8.toNat_ofNat']
    have h8 : (2:Nat) ^ 8 = 256 := rfl
    rw [Nat.mul_comm (256 ^ w), Nat.add_comm]
theorem octPut_rev (n w : Nat) : octPut n w false = (octPut n w true).reverse := by
  unfold octPut
  apply List.ext_getElem?
  intro j
  by_cases hj : j < w
  · rw [List.getElem?_reverse (by simpa using hj)]
    simp [hj]
    rw [List.getElem?_range (by omega)]
    rfl
  · rw [List.getElem?_eq_none (by simpa using hj), List.getElem?_eq_none (by simpa using hj)]
theorem octOf_put (n w : Nat) (little : Bool) (hw : 1 ≤ w ∧ w ≤ 8) (hn : n ≤ most (w : Int)) : octOf (octPut n w little) little = n := by
  have hl : (octPut n w little).take 8 = octPut n w little := List.take_of_length_le (by rw [octPut_length]; omega)
  have hmod : n % 256 ^ w = n := Nat.mod_eq_of_lt (by
    rw [most_nat w hw] at hn
    have := Nat.pow_pos (n := w) (show 0 < 256 by omega)
    omega)
  have hd := num_digits n w
  rw [hmod] at hd
  unfold octOf octSeq
  rw [hl]
  cases little
  · simp only [Bool.false_eq_true, if_false]
    rw [octPut_rev]
    simpa [octPut] using hd
  · simp only [if_true]
    simpa [octPut] using hd
/-- Digit i of what is written, counted from the lowest. -/
theorem octPut_at (n w : Nat) (little : Bool) (i : Nat) (hi : i < w) : (octPut n w little)[if little then i else w - 1 - i]? = some (UInt8.ofNat (n / 256 ^ i)) := by
  have e : (2 : Nat) ^ (8 * i) = 256 ^ i := by rw [Nat.pow_mul]
  unfold octPut
  cases little
  · simp only [Bool.false_eq_true, if_false]
    rw [List.getElem?_map, List.getElem?_range (by omega)]
    simp only [Option.map_some]
    rw [show w - 1 - (w - 1 - i) = i by omega, e]
  · simp [hi, e]
end Go.Proofs.Ytpajhgnkagifbaa
