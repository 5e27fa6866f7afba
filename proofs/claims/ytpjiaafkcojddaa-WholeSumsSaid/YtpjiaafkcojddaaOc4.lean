/- Plain laws of octet's numbers: what is written is read. No program in sight. -/
import Derived.Test.YtpjiaafkcojddaaOc3
namespace Go.Proofs.Ytpjiaafkcojddaa
open Go Go.E
set_option linter.unusedVariables false
theorem digits_big (x : Nat) : ∀ w : Nat, beN ((List.range w).map (byteAt false w x)) = x % 256 ^ w := by
  intro w
  induction w generalizing x with
  | zero => simp [beN]; omega
  | succ w ih =>
    have h := ih (x / 256)
    have e : (List.range w).map (byteAt false (w + 1) x) = (List.range w).map (byteAt false w (x / 256)) := by
      apply List.map_congr_left
      intro i hi
      have hi : i < w := by simpa using hi
      simp only [byteAt, if_neg (show ¬ (false = true) by simp)]
      rw [show 8 * (w + 1 - 1 - i) = 8 + 8 * (w - 1 - i) by omega, Nat.pow_add, ← Nat.div_div_eq_div_mul]
    rw [List.range_succ, List.map_append, List.map_singleton, beN_snoc, e, h]
    have e2 : (byteAt false (w + 1) x w).toNat = x % 256 := by simp [byteAt]
    rw [e2, Nat.pow_succ, Nat.mul_comm (256 ^ w) 256, Nat.mod_mul, Nat.mul_comm 256]
    omega
theorem putB_rev (w x : Nat) : (putB true w x).reverse = putB false w x := by
  unfold putB
  apply List.ext_getElem
  · simp
  · intro i h1 h2
    simp only [List.length_reverse, List.length_map, List.length_range] at h1
    simp [List.getElem_reverse, byteAt]
theorem putB_back {little : Bool} {w x : Nat} (h : x < 256 ^ w) : beN (dirB little (putB little w x)) = x := by
  have := digits_big x w
  rw [Nat.mod_eq_of_lt h] at this
  cases little
  · exact this
  · rw [dirB, if_pos rfl, putB_rev]; exact this
theorem mostN_lt {w x : Nat} (hw : 1 ≤ w ∧ w ≤ 8) (h : x ≤ mostN w) : x < 256 ^ w := by
  have e : mostN w = 2 ^ (8 * w) - 1 := by unfold mostN; rw [if_pos (by omega)]; simp
  have e2 : (256 : Nat) ^ w = 2 ^ (8 * w) := by rw [Nat.pow_mul]
  have : 0 < 2 ^ (8 * w) := Nat.two_pow_pos _
  omega
end Go.Proofs.Ytpjiaafkcojddaa
