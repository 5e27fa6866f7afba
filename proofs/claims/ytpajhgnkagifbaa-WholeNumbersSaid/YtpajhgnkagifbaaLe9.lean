/- Plain laws of leb: what is written is read. No program in sight. -/
import Derived.Test.YtpajhgnkagifbaaLe8
namespace Go.Proofs.Ytpajhgnkagifbaa
open Go Go.E
set_option linter.unusedVariables false
theorem enc_len (x : Nat) : (enc x).length = lebLen x := by
  induction x using Nat.strongRecOn with
  | _ x ih =>
    by_cases h : x < 128
    · rw [enc_lt h]
      unfold lebLen bitLen
      split
      · simp
      · rename_i h0
        have := (Nat.log2_lt (k := 7) h0).2 h
        simp; omega
    · rw [enc_ge h, List.length_cons, ih (x / 128) (by omega)]
      have h1 := bitLen_shift (x := x) (k := 7) (by simp; omega)
      have h2 : 1 ≤ bitLen (x / 128) := by unfold bitLen; split <;> omega
      simp only [Nat.reducePow] at h1
      unfold lebLen
      omega
theorem ofNat_small {x : Nat} (h : x < 256) : (UInt8.ofNat x).toNat = x := by simp; omega
theorem pow_step (cnt : Nat) : 2 ^ (7 * (cnt + 1)) = 128 * 2 ^ (7 * cnt) := by rw [Nat.mul_add, Nat.pow_add]; omega
theorem cnt_small {x cnt : Nat} (hx : x ≠ 0) (h : x * 2 ^ (7 * cnt) < 18446744073709551616) : cnt ≤ 9 := by
  rcases Nat.lt_or_ge cnt 10 with h1 | h1
  · omega
  · have h2 := Nat.pow_le_pow_right (show 0 < 2 by omega) (show 70 ≤ 7 * cnt by omega)
    have h3 : 1 * 2 ^ (7 * cnt) ≤ x * 2 ^ (7 * cnt) := Nat.mul_le_mul (by omega) (Nat.le_refl _)
    omega
theorem cnt_9 {x cnt : Nat} (h : x * 2 ^ (7 * cnt) < 18446744073709551616) (h9 : cnt = 9) : x ≤ 1 := by
  subst h9
  rcases Nat.lt_or_ge x 2 with h1 | h1
  · omega
  · have h3 : 2 * 2 ^ (7 * 9) ≤ x * 2 ^ (7 * 9) := Nat.mul_le_mul (by omega) (Nat.le_refl _)
    omega
theorem split128 (x cnt : Nat) : x * 2 ^ (7 * cnt) = (x % 128) * 2 ^ (7 * cnt) + (x / 128) * 2 ^ (7 * (cnt + 1)) := by
  rw [pow_step, ← Nat.mul_assoc, ← Nat.add_mul]
  congr 1
  omega
theorem rd_enc {len : Bool} (rest : List UInt8) (x : Nat) : ∀ (cnt acc : Nat), x * 2 ^ (7 * cnt) < 18446744073709551616 → cnt = 0 ∨ x ≠ 0 → rd len cnt acc (enc x ++ rest) = (acc + x * 2 ^ (7 * cnt), cnt + (enc x).length, 0) := by
  induction x using Nat.strongRecOn with
  | _ x ih =>
    intro cnt acc hb h0
    have hc : cnt ≤ 9 := by
      rcases h0 with h0 | h0
      · omega
      · exact cnt_small h0 hb
    have h9 := cnt_9 hb
    by_cases h : x < 128
    · rw [enc_lt h, List.singleton_append, rd, ofNat_small (by omega), if_neg (by omega), if_neg (by omega), if_neg (by omega)]
      simp only [more, ofNat_small (show x < 256 by omega), List.length_singleton, Nat.mod_eq_of_lt h]
    · have hs := split128 x cnt
      rw [enc_ge h, List.cons_append, rd, ofNat_small (by omega), if_neg (by omega), if_pos (by omega), ih (x / 128) (by omega) _ _ (by omega) (.inr (by omega))]
      simp only [more, ofNat_small (show x % 128 + 128 < 256 by omega), List.length_cons]
      rw [hs, show (x % 128 + 128) % 128 = x % 128 by omega, Nat.add_assoc, Nat.add_assoc, Nat.add_comm 1]
theorem rd_short {len : Bool} (x : Nat) : ∀ (cnt acc : Nat), x * 2 ^ (7 * cnt) < 18446744073709551616 → rd len cnt acc ((enc x).take ((enc x).length - 1)) = (0, 0, 10) := by
  induction x using Nat.strongRecOn with
  | _ x ih =>
    intro cnt acc hb
    by_cases h : x < 128
    · rw [enc_lt h]; rfl
    · have hs := split128 x cnt
      have hc := cnt_small (by omega) hb
      have h9 := cnt_9 hb
      have h1 : 1 ≤ (enc (x / 128)).length := by unfold enc; split <;> simp
      rw [enc_ge h, List.length_cons, show (enc (x / 128)).length + 1 - 1 = ((enc (x / 128)).length - 1) + 1 by omega, List.take_succ_cons, rd, ofNat_small (by omega), if_neg (by omega), if_pos (by omega)]
      exact ih (x / 128) (by omega) _ _ (by omega)
theorem rd_pad (rest : List UInt8) : ∀ (k x cnt acc : Nat), x * 2 ^ (7 * cnt) < 18446744073709551616 → x < 128 ^ (k + 1) → cnt + k ≤ 9 → rd true cnt acc (padE k x ++ rest) = (acc + x * 2 ^ (7 * cnt), cnt + k + 1, 0)
  | 0, x, cnt, acc, hb, h, hc => by
    have h9 := cnt_9 hb
    have h : x < 128 := by simpa using h
    rw [padE, List.singleton_append, rd, ofNat_small (by omega), if_neg (by omega), if_neg (by omega), if_neg (by simp)]
    simp only [more, ofNat_small (show x < 256 by omega), Nat.mod_eq_of_lt h, Nat.add_zero]
  | k + 1, x, cnt, acc, hb, h, hc => by
    have hs := split128 x cnt
    rw [padE, List.cons_append, rd, ofNat_small (by omega), if_neg (by omega), if_pos (by omega), rd_pad rest k (x / 128) _ _ (by omega) (by rw [Nat.pow_succ] at h; exact (Nat.div_lt_iff_lt_mul (by omega)).2 h) (by omega)]
    simp only [more, ofNat_small (show x % 128 + 128 < 256 by omega)]
    rw [hs, show (x % 128 + 128) % 128 = x % 128 by omega, Nat.add_assoc, show cnt + 1 + k = cnt + (k + 1) by omega]
theorem lebLen_pow {x : Nat} (h : x < 18446744073709551616) : x < 128 ^ (lebLen x) := by
  rw [← enc_len]
  induction x using Nat.strongRecOn with
  | _ x ih =>
    by_cases h1 : x < 128
    · rw [enc_lt h1]; simpa using h1
    · have := ih (x / 128) (by omega) (by omega)
      rw [enc_ge h1, List.length_cons, Nat.pow_succ]
      omega
theorem rd_true {v m : Nat} : ∀ (l : List UInt8) (cnt n : Nat), rd false cnt n l = (v, m, 0) → rd true cnt n l = (v, m, 0)
  | [], cnt, n, h => by simp [rd] at h
  | c :: l, cnt, n, h => by
    rw [rd] at h ⊢
    split at h
    · simp at h
    · rename_i h1
      rw [if_neg h1]
      split at h
      · rename_i h2; rw [if_pos h2]; exact rd_true l _ _ h
      · rename_i h2
        rw [if_neg h2]
        split at h
        · simp at h
        · simpa using h
theorem rd_canon {v m : Nat} : ∀ (l : List UInt8) (cnt n : Nat), rd false cnt n l = (v, m, 21) → ∃ v' m', rd true cnt n l = (v', m', 0)
  | [], cnt, n, h => by simp [rd] at h
  | c :: l, cnt, n, h => by
    rw [rd] at h ⊢
    split at h
    · simp at h
    · rename_i h1
      rw [if_neg h1]
      split at h
      · rename_i h2; rw [if_pos h2]; exact rd_canon l _ _ h
      · rename_i h2
        rw [if_neg h2]
        simp
theorem u8_mk {c : UInt8} {k : Nat} (h : c.toNat = k) : UInt8.ofNat k = c := by subst h; simp
theorem enc_of_rd {v m : Nat} : ∀ (l : List UInt8) (cnt n : Nat), rd false cnt n l = (v, m, 0) → ∃ y, v = n + y * 2 ^ (7 * cnt) ∧ cnt < m ∧ enc y = l.take (m - cnt) ∧ (cnt = 0 ∨ y ≠ 0)
  | [], cnt, n, h => by simp [rd] at h
  | c :: l, cnt, n, h => by
    rw [rd] at h
    split at h
    · simp at h
    split at h
    · rename_i h2
      obtain ⟨y, h3, h4, h5, h6⟩ := enc_of_rd l _ _ h
      refine ⟨c.toNat % 128 + 128 * y, ?_, by omega, ?_, .inr (by omega)⟩
      · rw [h3, more, pow_step, Nat.add_mul, Nat.add_assoc, Nat.mul_comm 128 y, Nat.mul_assoc]
      · have hc := c.toNat_lt
        rw [enc_ge (by omega), show m - cnt = (m - (cnt + 1)) + 1 by omega, List.take_succ_cons, ← h5]
        congr 1
        · exact u8_mk (by omega)
        · congr 1; omega
    split at h
    · simp at h
    · rename_i h1 h2 h3
      simp only [Prod.mk.injEq] at h
      obtain ⟨rfl, rfl, _⟩ := h
      refine ⟨c.toNat, ?_, by omega, ?_, ?_⟩
      · rw [more, Nat.mod_eq_of_lt (by omega)]
      · rw [enc_lt (by omega), show cnt + 1 - cnt = 1 by omega, List.take_succ_cons, List.take_zero, u8_mk rfl]
      · rcases Nat.eq_zero_or_pos cnt with h4 | h4
        · exact .inl h4
        · exact .inr (fun h5 => h3 ⟨rfl, h5, h4⟩)
theorem unfold_fold (a : Int) (h : -9223372036854775808 ≤ a ∧ a ≤ 9223372036854775807) : unfoldZ (foldZ a) = a := by
  unfold foldZ
  split
  · unfold unfoldZ; split <;> omega
  · unfold unfoldZ; split <;> omega
theorem fold_unfold (x : Nat) : foldZ (unfoldZ x) = x := by
  unfold unfoldZ
  split
  · unfold foldZ; split <;> omega
  · unfold foldZ; split <;> omega
theorem foldZ_lt {a : Int} (h : -9223372036854775808 ≤ a ∧ a ≤ 9223372036854775807) : foldZ a < 18446744073709551616 := by unfold foldZ; split <;> omega
theorem unfoldZ_in {x : Nat} (h : x < 18446744073709551616) : -9223372036854775808 ≤ unfoldZ x ∧ unfoldZ x ≤ 9223372036854775807 := by unfold unfoldZ; split <;> omega
end Go.Proofs.Ytpajhgnkagifbaa
