/- Contracts of the statements of regex: few, deep; of regex: Same. -/
import Derived.Test.YtniofdklhlbphaaDoorRgA
namespace Go.Proofs.YtniofdklhlbphaaDoor
open Go Go.E
set_option linter.unusedVariables false
set_option linter.unusedSimpArgs false
set_option maxRecDepth 10000
mutual
theorem few_left : ∀ (n : RgD) (M : Int), (fewD n M).1 = true → 0 ≤ (fewD n M).2 ∧ (fewD n M).2 ≤ M - 1
  | .mk k s l a b, M, h => by
    rw [fewD] at h ⊢
    split at h
    · cases h
    · rename_i h1
      rw [if_neg h1]
      have := fewK_left l (M - 1) (by omega) h
      omega
theorem fewK_left : ∀ (l : List RgD) (M : Int), 0 ≤ M → (fewK l M).1 = true → 0 ≤ (fewK l M).2 ∧ (fewK l M).2 ≤ M
  | [], M, h0, h => by rw [fewK]; exact ⟨h0, Int.le_refl _⟩
  | x :: r, M, h0, h => by
    rw [fewK] at h ⊢
    split at h
    · rename_i h1
      rw [if_pos h1]
      have h2 := few_left x M h1
      have := fewK_left r (fewD x M).2 h2.1 h
      omega
    · cases h
end

mutual
theorem deep_size : ∀ (n : RgD), deepD n ≤ sizeD n
  | .mk k s l a b => by rw [deepD, sizeD]; have := deepK_size l; omega
theorem deepK_size : ∀ (l : List RgD), deepK l ≤ sizeK l
  | [] => Nat.le_refl _
  | x :: r => by rw [deepK, sizeK]; have := deep_size x; have := deepK_size r; omega
end

theorem deepK_app : ∀ (a b : List RgD), deepK (a ++ b) = Max.max (deepK a) (deepK b)
  | [], b => by simp [deepK]
  | x :: a, b => by rw [List.cons_append, deepK, deepK, deepK_app a b, Nat.max_assoc]
end Go.Proofs.YtniofdklhlbphaaDoor
