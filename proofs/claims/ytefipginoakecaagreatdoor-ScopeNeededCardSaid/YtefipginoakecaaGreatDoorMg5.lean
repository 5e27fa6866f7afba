/- Texts of a walk, one behind the other. -/
import Derived.Test.YtefipginoakecaaGreatDoorMg4
section
/- Contracts of parse: Fixed, Word; the reader's names and numbers. -/
namespace Go.Proofs.YtefipginoakecaaGreatDoor
open Go Go.E
set_option linter.unusedVariables false
set_option linter.unusedSectionVars false
set_option linter.unusedSimpArgs false
set_option maxRecDepth 10000
theorem fixed_none {t : List UInt8} (h : ∀ x ∈ fixedL, x.2.1 < 9 → x.1 ≠ t) : fixedD t = none := by
  have h9 : ∀ x ∈ fixedL, x.2.1 < 9 := by decide
  unfold fixedD
  rw [List.find?_eq_none.2 (fun x hx => by
    have := h x hx (h9 x hx)
    simpa using this)]
  rfl
def fixV : Option (Nat × Bool) → Value
  | some x => .tuple #[.int .i64 (x.1 : Int), .bool x.2, .bool true]
  | none => .tuple #[.int .i64 0, .bool false, .bool false]
section
variable {ro : Ro} {own q : Chs} {K : Value → Ro → Chs → Prop}
set_option maxHeartbeats 4000000 in
theorem rfixed_ok {t : List UInt8} (ht : t.length ≤ 65536) (hk : K (fixV (fixedD t)) ro own) : CallOk Tryz.prog 30 #[str t] ro own K := by
  refine CallOk.intro (args := [_]) (rs := [_, _, _]) T_ok Tryz.func30 Tryz.call30 rfl rfl (by kernel_rfl) rfl rfl ?_
  repeat (first | exact endA | refine wkP ?_ | refine opB (fun b => ?_) | refine opA (fun a' c' hc1 hc2 => ?_) | (apply GJ.and; exact rfl; intro hg) | (apply GJ.or; exact rfl; intro hg))
  refine LoopOk.at (ι := Nat) Keep.auto (fun w => [(5, .int .i64 (w : Int))]) (fun w => own) (fun w => 1 ≤ w ∧ w ≤ 9 ∧ ∀ x ∈ fixedL, x.2.1 < w → x.1 ≠ t) (fun w => 9 - w) 1 ?_ Sub.auto Sup.auto ?_
  · exact ⟨Nat.le_refl _, by decide, fun x hx hlt => by have : ∀ x ∈ fixedL, 1 ≤ x.2.1 := by decide
                                                        have := this x hx; omega⟩
  rintro w ⟨i1, i2, i3⟩
  dsimp only [List.cons_append, List.nil_append] at i1 i2 i3 ⊢
  obtain rfl | rfl | rfl | rfl | rfl | rfl | rfl | rfl | rfl : w = 1 ∨ w = 2 ∨ w = 3 ∨ w = 4 ∨ w = 5 ∨ w = 6 ∨ w = 7 ∨ w = 8 ∨ w = 9 := by omega
  · have hA : ∀ x ∈ fixedL, x.2.1 = 1 → x.1 = [117, 56] ∨ x.1 = [117, 56] := by decide
    have hnx : t ≠ [117, 56] → t ≠ [117, 56] → ∀ x ∈ fixedL, x.2.1 < 1 + 1 → x.1 ≠ t := fun h1 h2 x hx hlt => by
      by_cases hlt2 : x.2.1 < 1
      · exact i3 x hx hlt2
      · rcases hA x hx (by omega) with e | e
        · rw [e]; exact fun h => h1 h.symm
        · rw [e]; exact fun h => h2 h.symm
    repeat (first | exact endA | refine wkP ?_ | refine opB (fun b => ?_) | refine opA (fun a' c' hc1 hc2 => ?_) | (apply GJ.and; exact rfl; intro hg) | (apply GJ.or; exact rfl; intro hg))
    refine itoa_ok (by decide) ?_
    rw [show Lib.itoa (8 * ((1 : Nat) : Int)) = [56] by decide +kernel]
    by_cases h1 : t = [117, 56]
    · subst h1
      have hf : fixedD [117, 56] = some (1, false) := by decide +kernel
      rw [hf] at hk
      repeat (first | exact endA | refine wkB ?_ | refine ⟨by decide, ?_⟩ | (apply GJ.and; exact rfl; intro hg) | (apply GJ.or; exact rfl; intro hg))
      exact Wk.outS Sup.auto (.refl _) hk
    · by_cases h2 : t = [117, 56]
      · subst h2
        have hf : fixedD [117, 56] = some (1, false) := by decide +kernel
        rw [hf] at hk
        repeat (first | exact endA | refine wkB ?_ | refine ⟨by decide, ?_⟩ | (apply GJ.and; exact rfl; intro hg) | (apply GJ.or; exact rfl; intro hg))
        exact Wk.outS Sup.auto (.refl _) hk
      · have hnx := hnx h1 h2
        have h1' : ¬ t = [117, 56] := h1
        repeat (first | exact endA | refine wkB ?_ | refine ⟨by decide, ?_⟩ | (apply GJ.and; exact rfl; intro hg) | (apply GJ.or; exact rfl; intro hg))
        refine Wk.id ⟨1 + 1, ⟨rfl, ?_⟩, ?_, Sub.auto, Sup.auto⟩
        all_goals try dsimp only
        · exact ⟨by decide, by decide, hnx⟩
        · decide
  · have hA : ∀ x ∈ fixedL, x.2.1 = 2 → x.1 = [117, 49, 54, 98, 101] ∨ x.1 = [117, 49, 54, 108, 101] := by decide
    have hnx : t ≠ [117, 49, 54, 98, 101] → t ≠ [117, 49, 54, 108, 101] → ∀ x ∈ fixedL, x.2.1 < 2 + 1 → x.1 ≠ t := fun h1 h2 x hx hlt => by
      by_cases hlt2 : x.2.1 < 2
      · exact i3 x hx hlt2
      · rcases hA x hx (by omega) with e | e
        · rw [e]; exact fun h => h1 h.symm
        · rw [e]; exact fun h => h2 h.symm
    repeat (first | exact endA | refine wkP ?_ | refine opB (fun b => ?_) | refine opA (fun a' c' hc1 hc2 => ?_) | (apply GJ.and; exact rfl; intro hg) | (apply GJ.or; exact rfl; intro hg))
    refine itoa_ok (by decide) ?_
    rw [show Lib.itoa (8 * ((2 : Nat) : Int)) = [49, 54] by decide +kernel]
    by_cases h1 : t = [117, 49, 54, 98, 101]
    · subst h1
      have hf : fixedD [117, 49, 54, 98, 101] = some (2, false) := by decide +kernel
      rw [hf] at hk
      repeat (first | exact endA | refine wkB ?_ | refine ⟨by decide, ?_⟩ | (apply GJ.and; exact rfl; intro hg) | (apply GJ.or; exact rfl; intro hg))
      exact Wk.outS Sup.auto (.refl _) hk
    · by_cases h2 : t = [117, 49, 54, 108, 101]
      · subst h2
        have hf : fixedD [117, 49, 54, 108, 101] = some (2, true) := by decide +kernel
        rw [hf] at hk
        repeat (first | exact endA | refine wkB ?_ | refine ⟨by decide, ?_⟩ | (apply GJ.and; exact rfl; intro hg) | (apply GJ.or; exact rfl; intro hg))
        exact Wk.outS Sup.auto (.refl _) hk
      · have hnx := hnx h1 h2
        have h1' : ¬ t = [117, 49, 54, 98, 101] := h1
        repeat (first | exact endA | refine wkB ?_ | refine ⟨by decide, ?_⟩ | (apply GJ.and; exact rfl; intro hg) | (apply GJ.or; exact rfl; intro hg))
        refine Wk.id ⟨2 + 1, ⟨rfl, ?_⟩, ?_, Sub.auto, Sup.auto⟩
        all_goals try dsimp only
        · exact ⟨by decide, by decide, hnx⟩
        · decide
  · have hA : ∀ x ∈ fixedL, x.2.1 = 3 → x.1 = [117, 50, 52, 98, 101] ∨ x.1 = [117, 50, 52, 108, 101] := by decide
    have hnx : t ≠ [117, 50, 52, 98, 101] → t ≠ [117, 50, 52, 108, 101] → ∀ x ∈ fixedL, x.2.1 < 3 + 1 → x.1 ≠ t := fun h1 h2 x hx hlt => by
      by_cases hlt2 : x.2.1 < 3
      · exact i3 x hx hlt2
      · rcases hA x hx (by omega) with e | e
        · rw [e]; exact fun h => h1 h.symm
        · rw [e]; exact fun h => h2 h.symm
    repeat (first | exact endA | refine wkP ?_ | refine opB (fun b => ?_) | refine opA (fun a' c' hc1 hc2 => ?_) | (apply GJ.and; exact rfl; intro hg) | (apply GJ.or; exact rfl; intro hg))
    refine itoa_ok (by decide) ?_
    rw [show Lib.itoa (8 * ((3 : Nat) : Int)) = [50, 52] by decide +kernel]
    by_cases h1 : t = [117, 50, 52, 98, 101]
    · subst h1
      have hf : fixedD [117, 50, 52, 98, 101] = some (3, false) := by decide +kernel
      rw [hf] at hk
      repeat (first | exact endA | refine wkB ?_ | refine ⟨by decide, ?_⟩ | (apply GJ.and; exact rfl; intro hg) | (apply GJ.or; exact rfl; intro hg))
      exact Wk.outS Sup.auto (.refl _) hk
    · by_cases h2 : t = [117, 50, 52, 108, 101]
      · subst h2
        have hf : fixedD [117, 50, 52, 108, 101] = some (3, true) := by decide +kernel
        rw [hf] at hk
        repeat (first | exact endA | refine wkB ?_ | refine ⟨by decide, ?_⟩ | (apply GJ.and; exact rfl; intro hg) | (apply GJ.or; exact rfl; intro hg))
        exact Wk.outS Sup.auto (.refl _) hk
      · have hnx := hnx h1 h2
        have h1' : ¬ t = [117, 50, 52, 98, 101] := h1
        repeat (first | exact endA | refine wkB ?_ | refine ⟨by decide, ?_⟩ | (apply GJ.and; exact rfl; intro hg) | (apply GJ.or; exact rfl; intro hg))
        refine Wk.id ⟨3 + 1, ⟨rfl, ?_⟩, ?_, Sub.auto, Sup.auto⟩
        all_goals try dsimp only
        · exact ⟨by decide, by decide, hnx⟩
        · decide
  · have hA : ∀ x ∈ fixedL, x.2.1 = 4 → x.1 = [117, 51, 50, 98, 101] ∨ x.1 = [117, 51, 50, 108, 101] := by decide
    have hnx : t ≠ [117, 51, 50, 98, 101] → t ≠ [117, 51, 50, 108, 101] → ∀ x ∈ fixedL, x.2.1 < 4 + 1 → x.1 ≠ t := fun h1 h2 x hx hlt => by
      by_cases hlt2 : x.2.1 < 4
      · exact i3 x hx hlt2
      · rcases hA x hx (by omega) with e | e
        · rw [e]; exact fun h => h1 h.symm
        · rw [e]; exact fun h => h2 h.symm
    repeat (first | exact endA | refine wkP ?_ | refine opB (fun b => ?_) | refine opA (fun a' c' hc1 hc2 => ?_) | (apply GJ.and; exact rfl; intro hg) | (apply GJ.or; exact rfl; intro hg))
    refine itoa_ok (by decide) ?_
    rw [show Lib.itoa (8 * ((4 : Nat) : Int)) = [51, 50] by decide +kernel]
    by_cases h1 : t = [117, 51, 50, 98, 101]
    · subst h1
      have hf : fixedD [117, 51, 50, 98, 101] = some (4, false) := by decide +kernel
      rw [hf] at hk
      repeat (first | exact endA | refine wkB ?_ | refine ⟨by decide, ?_⟩ | (apply GJ.and; exact rfl; intro hg) | (apply GJ.or; exact rfl; intro hg))
      exact Wk.outS Sup.auto (.refl _) hk
    · by_cases h2 : t = [117, 51, 50, 108, 101]
      · subst h2
        have hf : fixedD [117, 51, 50, 108, 101] = some (4, true) := by decide +kernel
        rw [hf] at hk
        repeat (first | exact endA | refine wkB ?_ | refine ⟨by decide, ?_⟩ | (apply GJ.and; exact rfl; intro hg) | (apply GJ.or; exact rfl; intro hg))
        exact Wk.outS Sup.auto (.refl _) hk
      · have hnx := hnx h1 h2
        have h1' : ¬ t = [117, 51, 50, 98, 101] := h1
        repeat (first | exact endA | refine wkB ?_ | refine ⟨by decide, ?_⟩ | (apply GJ.and; exact rfl; intro hg) | (apply GJ.or; exact rfl; intro hg))
        refine Wk.id ⟨4 + 1, ⟨rfl, ?_⟩, ?_, Sub.auto, Sup.auto⟩
        all_goals try dsimp only
        · exact ⟨by decide, by decide, hnx⟩
        · decide
  · have hA : ∀ x ∈ fixedL, x.2.1 = 5 → x.1 = [117, 52, 48, 98, 101] ∨ x.1 = [117, 52, 48, 108, 101] := by decide
    have hnx : t ≠ [117, 52, 48, 98, 101] → t ≠ [117, 52, 48, 108, 101] → ∀ x ∈ fixedL, x.2.1 < 5 + 1 → x.1 ≠ t := fun h1 h2 x hx hlt => by
      by_cases hlt2 : x.2.1 < 5
      · exact i3 x hx hlt2
      · rcases hA x hx (by omega) with e | e
        · rw [e]; exact fun h => h1 h.symm
        · rw [e]; exact fun h => h2 h.symm
    repeat (first | exact endA | refine wkP ?_ | refine opB (fun b => ?_) | refine opA (fun a' c' hc1 hc2 => ?_) | (apply GJ.and; exact rfl; intro hg) | (apply GJ.or; exact rfl; intro hg))
    refine itoa_ok (by decide) ?_
    rw [show Lib.itoa (8 * ((5 : Nat) : Int)) = [52, 48] by decide +kernel]
    by_cases h1 : t = [117, 52, 48, 98, 101]
    · subst h1
      have hf : fixedD [117, 52, 48, 98, 101] = some (5, false) := by decide +kernel
      rw [hf] at hk
      repeat (first | exact endA | refine wkB ?_ | refine ⟨by decide, ?_⟩ | (apply GJ.and; exact rfl; intro hg) | (apply GJ.or; exact rfl; intro hg))
      exact Wk.outS Sup.auto (.refl _) hk
    · by_cases h2 : t = [117, 52, 48, 108, 101]
      · subst h2
        have hf : fixedD [117, 52, 48, 108, 101] = some (5, true) := by decide +kernel
        rw [hf] at hk
        repeat (first | exact endA | refine wkB ?_ | refine ⟨by decide, ?_⟩ | (apply GJ.and; exact rfl; intro hg) | (apply GJ.or; exact rfl; intro hg))
        exact Wk.outS Sup.auto (.refl _) hk
      · have hnx := hnx h1 h2
        have h1' : ¬ t = [117, 52, 48, 98, 101] := h1
        repeat (first | exact endA | refine wkB ?_ | refine ⟨by decide, ?_⟩ | (apply GJ.and; exact rfl; intro hg) | (apply GJ.or; exact rfl; intro hg))
        refine Wk.id ⟨5 + 1, ⟨rfl, ?_⟩, ?_, Sub.auto, Sup.auto⟩
        all_goals try dsimp only
        · exact ⟨by decide, by decide, hnx⟩
        · decide
  · have hA : ∀ x ∈ fixedL, x.2.1 = 6 → x.1 = [117, 52, 56, 98, 101] ∨ x.1 = [117, 52, 56, 108, 101] := by decide
    have hnx : t ≠ [117, 52, 56, 98, 101] → t ≠ [117, 52, 56, 108, 101] → ∀ x ∈ fixedL, x.2.1 < 6 + 1 → x.1 ≠ t := fun h1 h2 x hx hlt => by
      by_cases hlt2 : x.2.1 < 6
      · exact i3 x hx hlt2
      · rcases hA x hx (by omega) with e | e
        · rw [e]; exact fun h => h1 h.symm
        · rw [e]; exact fun h => h2 h.symm
    repeat (first | exact endA | refine wkP ?_ | refine opB (fun b => ?_) | refine opA (fun a' c' hc1 hc2 => ?_) | (apply GJ.and; exact rfl; intro hg) | (apply GJ.or; exact rfl; intro hg))
    refine itoa_ok (by decide) ?_
    rw [show Lib.itoa (8 * ((6 : Nat) : Int)) = [52, 56] by decide +kernel]
    by_cases h1 : t = [117, 52, 56, 98, 101]
    · subst h1
      have hf : fixedD [117, 52, 56, 98, 101] = some (6, false) := by decide +kernel
      rw [hf] at hk
      repeat (first | exact endA | refine wkB ?_ | refine ⟨by decide, ?_⟩ | (apply GJ.and; exact rfl; intro hg) | (apply GJ.or; exact rfl; intro hg))
      exact Wk.outS Sup.auto (.refl _) hk
    · by_cases h2 : t = [117, 52, 56, 108, 101]
      · subst h2
        have hf : fixedD [117, 52, 56, 108, 101] = some (6, true) := by decide +kernel
        rw [hf] at hk
        repeat (first | exact endA | refine wkB ?_ | refine ⟨by decide, ?_⟩ | (apply GJ.and; exact rfl; intro hg) | (apply GJ.or; exact rfl; intro hg))
        exact Wk.outS Sup.auto (.refl _) hk
      · have hnx := hnx h1 h2
        have h1' : ¬ t = [117, 52, 56, 98, 101] := h1
        repeat (first | exact endA | refine wkB ?_ | refine ⟨by decide, ?_⟩ | (apply GJ.and; exact rfl; intro hg) | (apply GJ.or; exact rfl; intro hg))
        refine Wk.id ⟨6 + 1, ⟨rfl, ?_⟩, ?_, Sub.auto, Sup.auto⟩
        all_goals try dsimp only
        · exact ⟨by decide, by decide, hnx⟩
        · decide
  · have hA : ∀ x ∈ fixedL, x.2.1 = 7 → x.1 = [117, 53, 54, 98, 101] ∨ x.1 = [117, 53, 54, 108, 101] := by decide
    have hnx : t ≠ [117, 53, 54, 98, 101] → t ≠ [117, 53, 54, 108, 101] → ∀ x ∈ fixedL, x.2.1 < 7 + 1 → x.1 ≠ t := fun h1 h2 x hx hlt => by
      by_cases hlt2 : x.2.1 < 7
      · exact i3 x hx hlt2
      · rcases hA x hx (by omega) with e | e
        · rw [e]; exact fun h => h1 h.symm
        · rw [e]; exact fun h => h2 h.symm
    repeat (first | exact endA | refine wkP ?_ | refine opB (fun b => ?_) | refine opA (fun a' c' hc1 hc2 => ?_) | (apply GJ.and; exact rfl; intro hg) | (apply GJ.or; exact rfl; intro hg))
    refine itoa_ok (by decide) ?_
    rw [show Lib.itoa (8 * ((7 : Nat) : Int)) = [53, 54] by decide +kernel]
    by_cases h1 : t = [117, 53, 54, 98, 101]
    · subst h1
      have hf : fixedD [117, 53, 54, 98, 101] = some (7, false) := by decide +kernel
      rw [hf] at hk
      repeat (first | exact endA | refine wkB ?_ | refine ⟨by decide, ?_⟩ | (apply GJ.and; exact rfl; intro hg) | (apply GJ.or; exact rfl; intro hg))
      exact Wk.outS Sup.auto (.refl _) hk
    · by_cases h2 : t = [117, 53, 54, 108, 101]
      · subst h2
        have hf : fixedD [117, 53, 54, 108, 101] = some (7, true) := by decide +kernel
        rw [hf] at hk
        repeat (first | exact endA | refine wkB ?_ | refine ⟨by decide, ?_⟩ | (apply GJ.and; exact rfl; intro hg) | (apply GJ.or; exact rfl; intro hg))
        exact Wk.outS Sup.auto (.refl _) hk
      · have hnx := hnx h1 h2
        have h1' : ¬ t = [117, 53, 54, 98, 101] := h1
        repeat (first | exact endA | refine wkB ?_ | refine ⟨by decide, ?_⟩ | (apply GJ.and; exact rfl; intro hg) | (apply GJ.or; exact rfl; intro hg))
        refine Wk.id ⟨7 + 1, ⟨rfl, ?_⟩, ?_, Sub.auto, Sup.auto⟩
        all_goals try dsimp only
        · exact ⟨by decide, by decide, hnx⟩
        · decide
  · have hA : ∀ x ∈ fixedL, x.2.1 = 8 → x.1 = [117, 54, 52, 98, 101] ∨ x.1 = [117, 54, 52, 108, 101] := by decide
    have hnx : t ≠ [117, 54, 52, 98, 101] → t ≠ [117, 54, 52, 108, 101] → ∀ x ∈ fixedL, x.2.1 < 8 + 1 → x.1 ≠ t := fun h1 h2 x hx hlt => by
      by_cases hlt2 : x.2.1 < 8
      · exact i3 x hx hlt2
      · rcases hA x hx (by omega) with e | e
        · rw [e]; exact fun h => h1 h.symm
        · rw [e]; exact fun h => h2 h.symm
    repeat (first | exact endA | refine wkP ?_ | refine opB (fun b => ?_) | refine opA (fun a' c' hc1 hc2 => ?_) | (apply GJ.and; exact rfl; intro hg) | (apply GJ.or; exact rfl; intro hg))
    refine itoa_ok (by decide) ?_
    rw [show Lib.itoa (8 * ((8 : Nat) : Int)) = [54, 52] by decide +kernel]
    by_cases h1 : t = [117, 54, 52, 98, 101]
    · subst h1
      have hf : fixedD [117, 54, 52, 98, 101] = some (8, false) := by decide +kernel
      rw [hf] at hk
      repeat (first | exact endA | refine wkB ?_ | refine ⟨by decide, ?_⟩ | (apply GJ.and; exact rfl; intro hg) | (apply GJ.or; exact rfl; intro hg))
      exact Wk.outS Sup.auto (.refl _) hk
    · by_cases h2 : t = [117, 54, 52, 108, 101]
      · subst h2
        have hf : fixedD [117, 54, 52, 108, 101] = some (8, true) := by decide +kernel
        rw [hf] at hk
        repeat (first | exact endA | refine wkB ?_ | refine ⟨by decide, ?_⟩ | (apply GJ.and; exact rfl; intro hg) | (apply GJ.or; exact rfl; intro hg))
        exact Wk.outS Sup.auto (.refl _) hk
      · have hnx := hnx h1 h2
        have h1' : ¬ t = [117, 54, 52, 98, 101] := h1
        repeat (first | exact endA | refine wkB ?_ | refine ⟨by decide, ?_⟩ | (apply GJ.and; exact rfl; intro hg) | (apply GJ.or; exact rfl; intro hg))
        refine Wk.id ⟨8 + 1, ⟨rfl, ?_⟩, ?_, Sub.auto, Sup.auto⟩
        all_goals try dsimp only
        · exact ⟨by decide, by decide, hnx⟩
        · decide
  · rw [fixed_none i3] at hk
    repeat (first | exact endA | refine wkP ?_ | refine opB (fun b => ?_) | refine opA (fun a' c' hc1 hc2 => ?_) | (apply GJ.and; exact rfl; intro hg) | (apply GJ.or; exact rfl; intro hg))
    exact Wk.outS Sup.auto (.refl _) hk
end
end Go.Proofs.YtefipginoakecaaGreatDoor
end
section
/- Contracts of parse: Word; the reader's names and numbers. -/
namespace Go.Proofs.YtefipginoakecaaGreatDoor
open Go Go.E
set_option linter.unusedVariables false
set_option linter.unusedSectionVars false
set_option linter.unusedSimpArgs false
set_option maxRecDepth 10000
theorem numD_code (t : List UInt8) : (numD t).2 ≤ 1000 := by
  unfold numD
  split
  · decide
  · split
    · exact (by decide : (40 : Nat) ≤ 1000)
    · exact Nat.zero_le _
section
variable {ro : Ro} {own q : Chs} {K : Value → Ro → Chs → Prop} {l : List TokD} {s : PS} {a : SpecA} {la : Option Addr} {lc r : Nat}
theorem word_okP {t : List UInt8} (hM : MaxOk ro) (ht : t.length ≤ 65536) (hk : K (.bool (wordD t)) ro own) : CallOk Tryz.prog 79 #[str t] ro own K := by
  unfold wordD at hk
  refine CallOk.intro (args := [_]) (rs := [_]) T_ok Tryz.func79 Tryz.call79 rfl rfl (by kernel_rfl) rfl rfl ?_
  repeat (first | exact endA | refine wkP ?_ | refine opB (fun b => ?_) | refine opA (fun a' c' hc1 hc2 => ?_) | (apply GJ.and; exact rfl; intro hg) | (apply GJ.or; exact rfl; intro hg))
  refine ⟨by simp only [List.length_cons, List.length_nil]; omega, ?_⟩
  repeat (first | exact endA | refine wkP ?_ | refine opB (fun b => ?_) | refine opA (fun a' c' hc1 hc2 => ?_) | (apply GJ.and; exact rfl; intro hg) | (apply GJ.or; exact rfl; intro hg))
  refine ⟨by simp only [List.length_append, List.length_cons, List.length_nil]; omega, ?_⟩
  repeat (first | exact endA | refine wkP ?_ | refine opB (fun b => ?_) | refine opA (fun a' c' hc1 hc2 => ?_) | (apply GJ.and; exact rfl; intro hg) | (apply GJ.or; exact rfl; intro hg))
  refine contains_ok (x := wordsB) (y := 32 :: (t ++ [32])) hM (by decide) ?_
  cases hc : Lib.contains wordsB (32 :: (t ++ [32])) with
  | true =>
    rw [hc, Bool.true_or] at hk
    repeat (first | exact endA | refine wkP ?_ | refine opB (fun b => ?_) | refine opA (fun a' c' hc1 hc2 => ?_) | (apply GJ.and; exact rfl; intro hg) | (apply GJ.or; exact rfl; intro hg))
    exact Wk.outS Sup.auto (.refl _) hk
  | false =>
    rw [hc, Bool.false_or] at hk
    repeat (first | exact endA | refine wkP ?_ | refine opB (fun b => ?_) | refine opA (fun a' c' hc1 hc2 => ?_) | (apply GJ.and; exact rfl; intro hg) | (apply GJ.or; exact rfl; intro hg))
    refine rfixed_ok ht ?_
    cases hf : fixedD t with
    | none =>
      rw [hf] at hk
      unfold fixV
      repeat (first | exact endA | refine wkP ?_ | refine opB (fun b => ?_) | refine opA (fun a' c' hc1 hc2 => ?_) | (apply GJ.and; exact rfl; intro hg) | (apply GJ.or; exact rfl; intro hg))
      exact Wk.outS Sup.auto (.refl _) hk
    | some x =>
      rw [hf] at hk
      unfold fixV
      repeat (first | exact endA | refine wkP ?_ | refine opB (fun b => ?_) | refine opA (fun a' c' hc1 hc2 => ?_) | (apply GJ.and; exact rfl; intro hg) | (apply GJ.or; exact rfl; intro hg))
      exact Wk.outS Sup.auto (.refl _) hk
theorem rname_ok (hM : MaxOk ro) (hT : ToksOk ro la lc l) (h : RdOk ro l s a) (ht : Take own (rdC r la lc l s a) q) (hk : RdOk ro l (nameP (listE l) s).2 a → K (str (nameP (listE l) s).1) ro (rdC r la lc l (nameP (listE l) s).2 a :: q)) : CallOk Tryz.prog 99 #[ptr' r] ro own K := by
  refine CallOk.perm ht.perm ?_
  have hx := hT.text _ (peekT_mem hT h)
  have hstep := h.step hT
  have hat := h.at'
  have hl2 := hT.le
  refine CallOk.intro (args := [_]) (rs := [_]) T_ok Tryz.func99 Tryz.call99 rfl rfl (by kernel_rfl) rfl rfl ?_
  repeat (first | exact endA | refine wkP ?_ | refine opB (fun b => ?_) | refine opA (fun a' c' hc1 hc2 => ?_) | (apply GJ.and; exact rfl; intro hg) | (apply GJ.or; exact rfl; intro hg))
  refine rpeek_ok hT h Take.auto ?_
  unfold nameP at hk
  generalize hz : peekP (listE l) s = z at *
  obtain ⟨tk, ta, tt⟩ := z
  dsimp only [TokD.v] at hk hx hstep ⊢
  by_cases h1 : tk = 1
  · subst h1
    cases hw : wordD tt with
    | true =>
      rw [hw, if_pos (.inr rfl)] at hk
      repeat (first | exact endA | refine wkP ?_ | refine opB (fun b => ?_) | refine opA (fun a' c' hc1 hc2 => ?_) | (apply GJ.and; exact rfl; intro hg) | (apply GJ.or; exact rfl; intro hg))
      refine word_okP hM hx ?_
      rw [hw]
      repeat (first | exact endA | refine wkP ?_ | refine opB (fun b => ?_) | refine opA (fun a' c' hc1 hc2 => ?_) | (apply GJ.and; exact rfl; intro hg) | (apply GJ.or; exact rfl; intro hg))
      refine rwrong_ok (e := 5) (by decide) hT h Take.auto ?_
      repeat (first | exact endA | refine wkP ?_ | refine opB (fun b => ?_) | refine opA (fun a' c' hc1 hc2 => ?_) | (apply GJ.and; exact rfl; intro hg) | (apply GJ.or; exact rfl; intro hg))
      exact Wk.outS Sup.auto (.refl _) (hk (h.wrong 5 (by decide)))
    | false =>
      rw [hw, if_neg (by simp)] at hk
      have hk := hk (hstep (by decide))
      dsimp only at hk
      rw [stepC] at hk
      repeat (first | exact endA | refine wkP ?_ | refine opB (fun b => ?_) | refine opA (fun a' c' hc1 hc2 => ?_) | (apply GJ.and; exact rfl; intro hg) | (apply GJ.or; exact rfl; intro hg))
      refine word_okP hM hx ?_
      rw [hw]
      unfold rdC readV
      repeat (first | exact endA | refine wkP ?_ | refine opB (fun b => ?_) | refine opA (fun a' c' hc1 hc2 => ?_) | (apply GJ.and; exact rfl; intro hg) | (apply GJ.or; exact rfl; intro hg))
      exact Wk.outS Sup.auto (.refl _) hk
  · rw [if_pos (.inl h1)] at hk
    repeat (first | exact endA | refine wkP ?_ | refine opB (fun b => ?_) | refine opA (fun a' c' hc1 hc2 => ?_) | (apply GJ.and; exact rfl; intro hg) | (apply GJ.or; exact rfl; intro hg))
    refine rwrong_ok (e := 5) (by decide) hT h Take.auto ?_
    repeat (first | exact endA | refine wkP ?_ | refine opB (fun b => ?_) | refine opA (fun a' c' hc1 hc2 => ?_) | (apply GJ.and; exact rfl; intro hg) | (apply GJ.or; exact rfl; intro hg))
    exact Wk.outS Sup.auto (.refl _) (hk (h.wrong 5 (by decide)))
theorem rnum_ok (hT : ToksOk ro la lc l) (h : RdOk ro l s a) (ht : Take own (rdC r la lc l s a) q) (hk : RdOk ro l (numP numD (listE l) s).2 a → K (.int .u64 ((numP numD (listE l) s).1 : Int)) ro (rdC r la lc l (numP numD (listE l) s).2 a :: q)) : CallOk Tryz.prog 145 #[ptr' r] ro own K := by
  refine CallOk.perm ht.perm ?_
  have hx := hT.text _ (peekT_mem hT h)
  have hstep := h.step hT
  have hat := h.at'
  have hl2 := hT.le
  refine CallOk.intro (args := [_]) (rs := [_]) T_ok Tryz.func145 Tryz.call145 rfl rfl (by kernel_rfl) rfl rfl ?_
  repeat (first | exact endA | refine wkP ?_ | refine opB (fun b => ?_) | refine opA (fun a' c' hc1 hc2 => ?_) | (apply GJ.and; exact rfl; intro hg) | (apply GJ.or; exact rfl; intro hg))
  refine rpeek_ok hT h Take.auto ?_
  unfold numP at hk
  generalize hz : peekP (listE l) s = z at *
  obtain ⟨tk, ta, tt⟩ := z
  dsimp only [TokD.v] at hk hx hstep ⊢
  by_cases h1 : tk = 2
  · subst h1
    rw [if_neg (by simp)] at hk
    have hnc := numD_code tt
    by_cases hn : (numD tt).2 = 0
    · rw [if_neg (by simp [hn])] at hk
      have hk2 := hk (hstep (by decide))
      clear hk
      dsimp only at hk2
      rw [stepC] at hk2
      repeat (first | exact endA | refine wkP ?_ | refine opB (fun b => ?_) | refine opA (fun a' c' hc1 hc2 => ?_) | (apply GJ.and; exact rfl; intro hg) | (apply GJ.or; exact rfl; intro hg))
      refine wparse_ok (by omega) ?_
      generalize numD tt = nn at *
      obtain ⟨n1, n2⟩ := nn
      dsimp only at hn hk2 ⊢
      subst hn
      unfold rdC readV
      repeat (first | exact endA | refine wkP ?_ | refine opB (fun b => ?_) | refine opA (fun a' c' hc1 hc2 => ?_) | (apply GJ.and; exact rfl; intro hg) | (apply GJ.or; exact rfl; intro hg))
      exact Wk.outS Sup.auto (.refl _) hk2
    · rw [if_pos hn] at hk
      repeat (first | exact endA | refine wkP ?_ | refine opB (fun b => ?_) | refine opA (fun a' c' hc1 hc2 => ?_) | (apply GJ.and; exact rfl; intro hg) | (apply GJ.or; exact rfl; intro hg))
      refine wparse_ok (by omega) ?_
      generalize numD tt = nn at *
      obtain ⟨n1, n2⟩ := nn
      dsimp only at hn hk hnc ⊢
      repeat (first | exact endA | refine wkP ?_ | refine opB (fun b => ?_) | refine opA (fun a' c' hc1 hc2 => ?_) | (apply GJ.and; exact rfl; intro hg) | (apply GJ.or; exact rfl; intro hg))
      refine rwrong_ok (e := n2) hn hT h Take.auto ?_
      repeat (first | exact endA | refine wkP ?_ | refine opB (fun b => ?_) | refine opA (fun a' c' hc1 hc2 => ?_) | (apply GJ.and; exact rfl; intro hg) | (apply GJ.or; exact rfl; intro hg))
      exact Wk.outS Sup.auto (.refl _) (hk (h.wrong n2 hnc))
  · rw [if_pos h1] at hk
    repeat (first | exact endA | refine wkP ?_ | refine opB (fun b => ?_) | refine opA (fun a' c' hc1 hc2 => ?_) | (apply GJ.and; exact rfl; intro hg) | (apply GJ.or; exact rfl; intro hg))
    refine rwrong_ok (e := 5) (by decide) hT h Take.auto ?_
    repeat (first | exact endA | refine wkP ?_ | refine opB (fun b => ?_) | refine opA (fun a' c' hc1 hc2 => ?_) | (apply GJ.and; exact rfl; intro hg) | (apply GJ.or; exact rfl; intro hg))
    exact Wk.outS Sup.auto (.refl _) (hk (h.wrong 5 (by decide)))
end
end Go.Proofs.YtefipginoakecaaGreatDoor
end
section
/- The reader's steps with what it has put together; a type more. -/
namespace Go.Proofs.YtefipginoakecaaGreatDoor
open Go Go.E
set_option linter.unusedVariables false
set_option linter.unusedSectionVars false
set_option linter.unusedSimpArgs false
set_option maxRecDepth 10000
section
variable {E : PE} {s : PS}
/-- Types and names stay. -/
def Keeps (s s' : PS) : Prop := s'.nodes = s.nodes ∧ s'.defs = s.defs
theorem keep_wrong (e : Nat) : Keeps s (wrongP e s) := by unfold wrongP; split <;> exact ⟨rfl, rfl⟩
theorem keep_step : Keeps s (stepP s) := ⟨rfl, rfl⟩
theorem keep_eat (k : Nat) (t : List UInt8) : Keeps s (eatP E k t s).2 := by unfold eatP; split <;> exact ⟨rfl, rfl⟩
theorem keep_sign (t : List UInt8) : Keeps s (signP E t s).2 := keep_eat 4 t
theorem keep_kw (t : List UInt8) : Keeps s (kwP E t s).2 := keep_eat 1 t
theorem keep_must (t : List UInt8) : Keeps s (mustP E t s) := by unfold mustP; split; exact keep_sign t; exact keep_wrong 5
theorem keep_name : Keeps s (nameP E s).2 := by unfold nameP; split; exact keep_wrong 5; exact keep_step
theorem keep_num : Keeps s (numP numD E s).2 := by unfold numP; split; exact keep_wrong 5; split; exact keep_wrong _; exact keep_step
end
section
variable {ro : Ro} {own q q1 q2 : Chs} {K : Value → Ro → Chs → Prop} {l : List TokD} {s : PS} {a : SpecA} {la : Option Addr} {lc r : Nat}
abbrev ndC (s : PS) (a : SpecA) : Chunk := .sl a.na s.nodes.length a.nc 41 18 (nodesV s.nodes a.xs)
abbrev dfC (s : PS) (a : SpecA) : Chunk := .sl a.da s.defs.length a.dc 46 2 (defsV s.defs)
theorem three {own : Chs} {c1 c2 c3 : Chunk} (t1 : Take own c1 q1) (t2 : Take q1 c2 q2) (t3 : Take q2 c3 q) : own.Perm (c1 :: c2 :: c3 :: q) := t1.perm.trans (.cons _ (t2.perm.trans (.cons _ t3.perm)))
theorem Keeps.cs {s' : PS} (h : Keeps s s') (a : SpecA) : ndC s a = ndC s' a ∧ dfC s a = dfC s' a := by
  unfold ndC dfC
  rw [h.1, h.2]
  exact ⟨rfl, rfl⟩
theorem must3 {t : List UInt8} (hT : ToksOk ro la lc l) (h : RdOk ro l s a) (t1 : Take own (rdC r la lc l s a) q1) (t2 : Take q1 (ndC s a) q2) (t3 : Take q2 (dfC s a) q)
    (hk : RdOk ro l (mustP (listE l) t s) a → K (.tuple #[]) ro (rdC r la lc l (mustP (listE l) t s) a :: ndC (mustP (listE l) t s) a :: dfC (mustP (listE l) t s) a :: q)) : CallOk Tryz.prog 100 #[ptr' r, str t] ro own K := by
  refine CallOk.perm (three t1 t2 t3) ?_
  obtain ⟨e1, e2⟩ := (keep_must t : Keeps s (mustP (listE l) t s)).cs a
  refine rmust_ok hT h (Take.hit _ _) (fun h2 => ?_)
  rw [e1, e2]
  exact hk h2
theorem sign3 {t : List UInt8} (hT : ToksOk ro la lc l) (h : RdOk ro l s a) (t1 : Take own (rdC r la lc l s a) q1) (t2 : Take q1 (ndC s a) q2) (t3 : Take q2 (dfC s a) q)
    (hk : RdOk ro l ((signP (listE l) t s).2) a → K (.bool (signP (listE l) t s).1) ro (rdC r la lc l ((signP (listE l) t s).2) a :: ndC ((signP (listE l) t s).2) a :: dfC ((signP (listE l) t s).2) a :: q)) : CallOk Tryz.prog 122 #[ptr' r, str t] ro own K := by
  refine CallOk.perm (three t1 t2 t3) ?_
  obtain ⟨e1, e2⟩ := (keep_sign t : Keeps s ((signP (listE l) t s).2)).cs a
  refine rsign_ok hT h (Take.hit _ _) (fun h2 => ?_)
  rw [e1, e2]
  exact hk h2
theorem word3 {t : List UInt8} (hT : ToksOk ro la lc l) (h : RdOk ro l s a) (t1 : Take own (rdC r la lc l s a) q1) (t2 : Take q1 (ndC s a) q2) (t3 : Take q2 (dfC s a) q)
    (hk : RdOk ro l ((kwP (listE l) t s).2) a → K (.bool (kwP (listE l) t s).1) ro (rdC r la lc l ((kwP (listE l) t s).2) a :: ndC ((kwP (listE l) t s).2) a :: dfC ((kwP (listE l) t s).2) a :: q)) : CallOk Tryz.prog 146 #[ptr' r, str t] ro own K := by
  refine CallOk.perm (three t1 t2 t3) ?_
  obtain ⟨e1, e2⟩ := (keep_kw t : Keeps s ((kwP (listE l) t s).2)).cs a
  refine rword_ok hT h (Take.hit _ _) (fun h2 => ?_)
  rw [e1, e2]
  exact hk h2
theorem name3  (hM : MaxOk ro) (hT : ToksOk ro la lc l) (h : RdOk ro l s a) (t1 : Take own (rdC r la lc l s a) q1) (t2 : Take q1 (ndC s a) q2) (t3 : Take q2 (dfC s a) q)
    (hk : RdOk ro l ((nameP (listE l) s).2) a → K (str (nameP (listE l) s).1) ro (rdC r la lc l ((nameP (listE l) s).2) a :: ndC ((nameP (listE l) s).2) a :: dfC ((nameP (listE l) s).2) a :: q)) : CallOk Tryz.prog 99 #[ptr' r] ro own K := by
  refine CallOk.perm (three t1 t2 t3) ?_
  obtain ⟨e1, e2⟩ := (keep_name : Keeps s ((nameP (listE l) s).2)).cs a
  refine rname_ok hM hT h (Take.hit _ _) (fun h2 => ?_)
  rw [e1, e2]
  exact hk h2
theorem num3  (hT : ToksOk ro la lc l) (h : RdOk ro l s a) (t1 : Take own (rdC r la lc l s a) q1) (t2 : Take q1 (ndC s a) q2) (t3 : Take q2 (dfC s a) q)
    (hk : RdOk ro l ((numP numD (listE l) s).2) a → K (.int .u64 ((numP numD (listE l) s).1 : Int)) ro (rdC r la lc l ((numP numD (listE l) s).2) a :: ndC ((numP numD (listE l) s).2) a :: dfC ((numP numD (listE l) s).2) a :: q)) : CallOk Tryz.prog 145 #[ptr' r] ro own K := by
  refine CallOk.perm (three t1 t2 t3) ?_
  obtain ⟨e1, e2⟩ := (keep_num : Keeps s ((numP numD (listE l) s).2)).cs a
  refine rnum_ok hT h (Take.hit _ _) (fun h2 => ?_)
  rw [e1, e2]
  exact hk h2
theorem wrong3 {e : Nat} (he : e ≠ 0) (he2 : e ≤ 1000) (hT : ToksOk ro la lc l) (h : RdOk ro l s a) (t1 : Take own (rdC r la lc l s a) q1) (t2 : Take q1 (ndC s a) q2) (t3 : Take q2 (dfC s a) q)
    (hk : RdOk ro l (wrongP e s) a → K (.tuple #[]) ro (rdC r la lc l (wrongP e s) a :: ndC (wrongP e s) a :: dfC (wrongP e s) a :: q)) : CallOk Tryz.prog 103 #[ptr' r, .int .i64 (e : Int)] ro own K := by
  refine CallOk.perm (three t1 t2 t3) ?_
  obtain ⟨e1, e2⟩ := (keep_wrong e : Keeps s (wrongP e s)).cs a
  refine rwrong_ok he hT h (Take.hit _ _) ?_
  rw [e1, e2]
  exact hk (h.wrong e he2)
theorem badd2048_ok {d : NodeD} {x : NodeA} (hn : s.nodes.length = 2048) (hk : K (.tuple #[.int .i64 0, .int .i64 2]) ro (rdC r la lc l s a :: q)) : CallOk Tryz.prog 143 #[.pointer (some ⟨r, 0 + 2, none⟩), .agg (nodeV d x).toArray] ro (rdC r la lc l s a :: q) K := by
  unfold rdC readV at hk ⊢
  refine CallOk.intro (args := [_, _]) (rs := [_, _]) T_ok Tryz.func143 Tryz.call143 rfl rfl (by kernel_rfl) rfl rfl ?_
  repeat (first | exact endA | refine wkP ?_ | refine opB (fun b => ?_) | refine opA (fun a' c' hc1 hc2 => ?_) | (apply GJ.and; exact rfl; intro hg) | (apply GJ.or; exact rfl; intro hg))
  exact Wk.outS Sup.auto (.refl _) hk
set_option maxHeartbeats 4000000 in
theorem baddAt_ok {d : NodeD} {x : NodeA} (h : RdOk ro l s a) (hx : NodeOk ro d x) (hs : NodeSm d) (hn : s.nodes.length < 2048)
    (hk : ∀ ro' a', Le ro ro' → RdOk ro' l { s with nodes := s.nodes ++ [d] } a' → K (.tuple #[.int .i64 (s.nodes.length : Nat), .int .i64 0]) ro' (rdC r la lc l { s with nodes := s.nodes ++ [d] } a' :: ndC { s with nodes := s.nodes ++ [d] } a' :: dfC { s with nodes := s.nodes ++ [d] } a' :: q)) :
    CallOk Tryz.prog 143 #[.pointer (some ⟨r, 0 + 2, none⟩), .agg (nodeV d x).toArray] ro (rdC r la lc l s a :: ndC s a :: dfC s a :: q) K := by
  have hb := h.build
  have hnc := hb.nc
  unfold rdC readV
  refine CallOk.intro (args := [_, _]) (rs := [_, _]) T_ok Tryz.func143 Tryz.call143 rfl rfl (by kernel_rfl) rfl rfl ?_
  repeat (first | exact endA | refine wkG ?_ | refine opB (fun b => ?_) | refine opA (fun a' c' hc1 hc2 => ?_) | (show GJ _ _ _ _ _ _ _; first | (apply GJ.and; exact rfl; intro hg) | (apply GJ.or; exact rfl; intro hg) | refine GJ.t omAuto ?_ | refine GJ.f omAuto ?_ | refine GJ.ft omAuto ?_ | refine GJ.ff omAuto ?_))
  refine Bs.mk ⟨[.blk b 41 (nodeV d x), .blk r 125 [.slice la l.length lc, .int .i64 (s.at' : Int), .slice a.na s.nodes.length a.nc, .slice a.da s.defs.length a.dc, .int .i64 (s.code : Int), .int .i64 (fatV l s : Int)]], Sup.auto, ?_⟩
  repeat (first | exact endA | refine wkG ?_ | refine opB (fun b => ?_) | refine opA (fun a' c' hc1 hc2 => ?_) | (show GJ _ _ _ _ _ _ _; first | (apply GJ.and; exact rfl; intro hg) | (apply GJ.or; exact rfl; intro hg) | refine GJ.t omAuto ?_ | refine GJ.f omAuto ?_ | refine GJ.ft omAuto ?_ | refine GJ.ff omAuto ?_))
  refine own_last hx hs (fun ro1 x1 hl1 ho1 => ?_)
  refine wkS ?_
  refine opB (fun b2 => ?_)
  refine wkS ?_
  repeat (first | exact endA | refine wkG ?_ | refine opB (fun b => ?_) | refine opA (fun a' c' hc1 hc2 => ?_) | (show GJ _ _ _ _ _ _ _; first | (apply GJ.and; exact rfl; intro hg) | (apply GJ.or; exact rfl; intro hg) | refine GJ.t omAuto ?_ | refine GJ.f omAuto ?_ | refine GJ.ft omAuto ?_ | refine GJ.ff omAuto ?_))
  have e1 : (s.nodes ++ [d]).length = s.nodes.length + 1 := by simp
  have e2 : nodesV s.nodes a.xs ++ flat [.agg (nodeV d x1).toArray] = nodesV (s.nodes ++ [d]) (a.xs ++ [x1]) := by rw [nodesV_snoc _ _ hb.len]; rfl
  have hk2 := hk ro1 ⟨a', c', a.da, a.dc, a.xs ++ [x1]⟩ hl1 ⟨h.at', h.fat, h.code, ⟨by have := hb.len; simp at this ⊢; omega, fun i d' x' g1 g2 => ?_, ⟨by dsimp only; rw [e1]; exact hc1, hc2⟩, hb.dc⟩, fun d' hd' => ?_, by dsimp only; rw [e1]; omega, h.nd⟩
  · rw [e2]
    unfold rdC readV ndC dfC at hk2
    dsimp only at hk2
    rw [e1] at hk2
    exact Wk.outV Sup.auto hk2 (congrArg (fun z => Value.tuple #[.int .i64 z, .int .i64 0]) (by omega))
  · dsimp only at g1 g2
    rcases Nat.lt_or_ge i s.nodes.length with hi | hi
    · rw [List.getElem?_append_left hi] at g1
      rw [List.getElem?_append_left (by rw [hb.len]; exact hi)] at g2
      exact (hb.each i d' x' g1 g2).le hl1
    · rw [List.getElem?_append_right hi] at g1
      have hbl : a.xs.length = s.nodes.length := hb.len
      rw [List.getElem?_append_right (by omega)] at g2
      have h3 : i - s.nodes.length = 0 := by have := (List.getElem?_eq_some_iff.1 g1).1; simp at this; omega
      rw [h3] at g1
      rw [hbl, h3] at g2
      simp at g1 g2
      subst g1; subst g2; exact ho1
  · rcases List.mem_append.1 hd' with hd' | hd'
    · exact h.sm d' hd'
    · simp at hd'; subst hd'; exact hs
set_option maxHeartbeats 4000000 in
theorem radd_ok {d : NodeD} {x : NodeA} (hT : ToksOk ro la lc l) (h : RdOk ro l s a) (hx : NodeOk ro d x) (hs : NodeSm d) (t1 : Take own (rdC r la lc l s a) q1) (t2 : Take q1 (ndC s a) q2) (t3 : Take q2 (dfC s a) q)
    (hk : ∀ ro' a', Le ro ro' → RdOk ro' l (addP (listE l) d s).2 a' → K (.int .i64 ((addP (listE l) d s).1 : Int)) ro' (rdC r la lc l (addP (listE l) d s).2 a' :: ndC (addP (listE l) d s).2 a' :: dfC (addP (listE l) d s).2 a' :: q)) :
    CallOk Tryz.prog 123 #[ptr' r, .agg (nodeV d x).toArray] ro own K := by
  refine CallOk.perm (three t1 t2 t3) ?_
  have hnn := h.nn
  have hlim : (listE l).lim = 2048 := rfl
  unfold addP at hk
  rw [hlim] at hk
  refine CallOk.intro (args := [_, _]) (rs := [_]) T_ok Tryz.func123 Tryz.call123 rfl rfl (by kernel_rfl) rfl rfl ?_
  by_cases hn : s.nodes.length = 2048
  · rw [if_pos hn] at hk
    have hk2 := hk ro a (Le.refl _) (h.wrong 2 (by decide))
    repeat (first | exact endA | refine wkP ?_ | refine opB (fun b => ?_) | refine opA (fun a' c' hc1 hc2 => ?_) | (apply GJ.and; exact rfl; intro hg) | (apply GJ.or; exact rfl; intro hg))
    refine CallOk.perm (Take.miss _ (Take.hit _ _)).perm ?_
    refine badd2048_ok hn ?_
    repeat (first | exact endA | refine wkP ?_ | refine opB (fun b => ?_) | refine opA (fun a' c' hc1 hc2 => ?_) | (apply GJ.and; exact rfl; intro hg) | (apply GJ.or; exact rfl; intro hg))
    refine rwrong_ok (e := 2) (by decide) hT h Take.auto ?_
    obtain ⟨g1, g2⟩ := (keep_wrong (s := s) 2).cs a
    rw [g1, g2]
    repeat (first | exact endA | refine wkP ?_ | refine opB (fun b => ?_) | refine opA (fun a' c' hc1 hc2 => ?_) | (apply GJ.and; exact rfl; intro hg) | (apply GJ.or; exact rfl; intro hg))
    exact Wk.outS Sup.auto (.refl _) hk2
  · rw [if_neg hn] at hk
    repeat (first | exact endA | refine wkP ?_ | refine opB (fun b => ?_) | refine opA (fun a' c' hc1 hc2 => ?_) | (apply GJ.and; exact rfl; intro hg) | (apply GJ.or; exact rfl; intro hg))
    refine CallOk.perm (three (Take.miss _ (Take.hit _ _)) (Take.miss _ (Take.hit _ _)) (Take.miss _ (Take.hit _ _))) ?_
    refine baddAt_ok h hx hs (by omega) (fun ro' a' hl' h' => ?_)
    have hk2 := hk ro' a' hl' h'
    repeat (first | exact endA | refine wkP ?_ | refine opB (fun b => ?_) | refine opA (fun a' c' hc1 hc2 => ?_) | (apply GJ.and; exact rfl; intro hg) | (apply GJ.or; exact rfl; intro hg))
    exact Wk.outS Sup.auto (.refl _) hk2
end
end Go.Proofs.YtefipginoakecaaGreatDoor
end
section
/- Contracts of the reader: numbers' types, how many of something, what is counted. -/
namespace Go.Proofs.YtefipginoakecaaGreatDoor
open Go Go.E
set_option linter.unusedVariables false
set_option linter.unusedSectionVars false
set_option linter.unusedSimpArgs false
set_option maxRecDepth 10000
theorem num_pos {E : PE} {s : PS} (h : (numP numD E s).2.code = 0) : 1 ≤ (numP numD E s).2.at' := by
  unfold numP at h ⊢
  split
  · rename_i hk
    rw [if_pos hk] at h
    unfold wrongP at h
    split at h
    · exact absurd h (by simp)
    · rename_i hc; exact absurd h hc
  · rename_i hk
    rw [if_neg hk] at h
    split
    · rename_i he
      rw [if_pos he] at h
      unfold wrongP at h
      split at h
      · exact absurd h he
      · rename_i hc; exact absurd h hc
    · exact Nat.succ_pos _
def nodeZ : NodeA := ⟨none, 0, none, 0, none, 0, none, 0⟩
section
variable {ro : Ro} {own q q1 q2 : Chs} {K : Value → Ro → Chs → Prop} {l : List TokD} {s : PS} {a : SpecA} {la : Option Addr} {lc r : Nat}
theorem RdOk.back (h : RdOk ro l s a) : RdOk ro l (backP s) a := ⟨by have := h.at'; show s.at' - 1 < l.length; omega, h.fat, h.code, h.build, h.sm, h.nn, h.nd⟩
theorem backC (h1 : 1 ≤ s.at') : rdC r la lc l (backP s) a = .blk r 125 [.slice la l.length lc, .int .i64 ((s.at' : Int) - 1), .slice a.na s.nodes.length a.nc, .slice a.da s.defs.length a.dc, .int .i64 (s.code : Int), .int .i64 (fatV l s : Int)] := by
  unfold rdC readV
  rw [show ((backP s).at' : Int) = (s.at' : Int) - 1 by show ((s.at' - 1 : Nat) : Int) = _; omega]
  rfl
set_option maxHeartbeats 4000000 in
theorem rranged_ok {d : NodeD} {x : NodeA} (hT : ToksOk ro la lc l) (h : RdOk ro l s a) (hx : NodeOk ro d x) (hs : NodeSm d) (t1 : Take own (rdC r la lc l s a) q1) (t2 : Take q1 (ndC s a) q2) (t3 : Take q2 (dfC s a) q)
    (hk : ∀ ro' a', Le ro ro' → RdOk ro' l (rangedP numD (listE l) d s).2 a' → K (.int .i64 ((rangedP numD (listE l) d s).1 : Int)) ro' (rdC r la lc l (rangedP numD (listE l) d s).2 a' :: ndC (rangedP numD (listE l) d s).2 a' :: dfC (rangedP numD (listE l) d s).2 a' :: q)) :
    CallOk Tryz.prog 126 #[ptr' r, .agg (nodeV d x).toArray] ro own K := by
  refine CallOk.perm (three t1 t2 t3) ?_
  unfold rangedP at hk
  refine CallOk.intro (args := [_, _]) (rs := [_]) T_ok Tryz.func126 Tryz.call126 rfl rfl (by kernel_rfl) rfl rfl ?_
  repeat (first | exact endA | refine wkP ?_ | refine opB (fun b => ?_) | refine opA (fun a' c' hc1 hc2 => ?_) | (apply GJ.and; exact rfl; intro hg) | (apply GJ.or; exact rfl; intro hg))
  refine smost_ok ?_
  repeat (first | exact endA | refine wkP ?_ | refine opB (fun b => ?_) | refine opA (fun a' c' hc1 hc2 => ?_) | (apply GJ.and; exact rfl; intro hg) | (apply GJ.or; exact rfl; intro hg))
  refine rpeek_ok hT h Take.auto ?_
  generalize hz : peekP (listE l) s = z at *
  obtain ⟨tk, ta, tt⟩ := z
  dsimp only [TokD.v] at hk ⊢
  by_cases h2 : tk = 2
  · subst h2
    rw [if_pos rfl] at hk
    repeat (first | exact endA | refine wkP ?_ | refine opB (fun b => ?_) | refine opA (fun a' c' hc1 hc2 => ?_) | (apply GJ.and; exact rfl; intro hg) | (apply GJ.or; exact rfl; intro hg))
    refine num3 hT h Take.auto Take.auto Take.auto (fun h1 => ?_)
    generalize numP numD (listE l) s = r1 at *
    obtain ⟨n1, s1⟩ := r1
    dsimp only at h1 hk ⊢
    repeat (first | exact endA | refine wkP ?_ | refine opB (fun b => ?_) | refine opA (fun a' c' hc1 hc2 => ?_) | (apply GJ.and; exact rfl; intro hg) | (apply GJ.or; exact rfl; intro hg))
    refine must3 (t := [46, 46]) hT h1 Take.auto Take.auto Take.auto (fun h2 => ?_)
    generalize mustP (listE l) [46, 46] s1 = s2 at *
    repeat (first | exact endA | refine wkP ?_ | refine opB (fun b => ?_) | refine opA (fun a' c' hc1 hc2 => ?_) | (apply GJ.and; exact rfl; intro hg) | (apply GJ.or; exact rfl; intro hg))
    refine num3 hT h2 Take.auto Take.auto Take.auto (fun h3 => ?_)
    have hpos := num_pos (E := listE l) (s := s2)
    generalize numP numD (listE l) s2 = r3 at *
    obtain ⟨n3, s3⟩ := r3
    dsimp only at h3 hk hpos ⊢
    repeat (first | exact endA | refine wkP ?_ | refine opB (fun b => ?_) | refine opA (fun a' c' hc1 hc2 => ?_) | (apply GJ.and; exact rfl; intro hg) | (apply GJ.or; exact rfl; intro hg))
    refine rok_ok h3 Take.auto ?_
    by_cases hc : s3.code = 0
    · by_cases hr : n3 < n1 ∨ mostD d < n3
      · rw [if_pos ⟨hc, hr⟩] at hk
        rw [decide_eq_true hc]
        have hat := h3.at'
        have hl2 := hT.le
        unfold rdC readV
        repeat (first | exact endA | refine wkP ?_ | refine opB (fun b => ?_) | refine opA (fun a' c' hc1 hc2 => ?_) | (apply GJ.and; exact rfl; intro hg) | (apply GJ.or; exact rfl; intro hg))
        rw [← backC (hpos hc)]
        refine wrong3 (e := 1) (s := backP s3) (by decide) (by decide) hT h3.back Take.auto Take.auto Take.auto (fun h4 => ?_)
        repeat (first | exact endA | refine wkP ?_ | refine opB (fun b => ?_) | refine opA (fun a' c' hc1 hc2 => ?_) | (apply GJ.and; exact rfl; intro hg) | (apply GJ.or; exact rfl; intro hg))
        refine radd_ok (d := { d with min := n1, max := n3 }) (x := x) hT h4 ⟨hx.kids, hx.last, hx.fields, hx.cases⟩ ⟨hs.kids, hs.last, hs.fields, hs.cases⟩ Take.auto Take.auto Take.auto (fun ro' a' hl' h' => ?_)
        have hk2 := hk ro' a' hl' h'
        repeat (first | exact endA | refine wkP ?_ | refine opB (fun b => ?_) | refine opA (fun a' c' hc1 hc2 => ?_) | (apply GJ.and; exact rfl; intro hg) | (apply GJ.or; exact rfl; intro hg))
        exact Wk.outS Sup.auto (.refl _) hk2
      · rw [if_neg (fun h => hr h.2)] at hk
        rw [decide_eq_true hc]
        repeat (first | exact endA | refine wkP ?_ | refine opB (fun b => ?_) | refine opA (fun a' c' hc1 hc2 => ?_) | (apply GJ.and; exact rfl; intro hg) | (apply GJ.or; exact rfl; intro hg))
        refine radd_ok (d := { d with min := n1, max := n3 }) (x := x) hT h3 ⟨hx.kids, hx.last, hx.fields, hx.cases⟩ ⟨hs.kids, hs.last, hs.fields, hs.cases⟩ Take.auto Take.auto Take.auto (fun ro' a' hl' h' => ?_)
        have hk2 := hk ro' a' hl' h'
        repeat (first | exact endA | refine wkP ?_ | refine opB (fun b => ?_) | refine opA (fun a' c' hc1 hc2 => ?_) | (apply GJ.and; exact rfl; intro hg) | (apply GJ.or; exact rfl; intro hg))
        exact Wk.outS Sup.auto (.refl _) hk2
    · rw [if_neg (fun h => hc h.1)] at hk
      rw [decide_eq_false hc]
      repeat (first | exact endA | refine wkP ?_ | refine opB (fun b => ?_) | refine opA (fun a' c' hc1 hc2 => ?_) | (apply GJ.and; exact rfl; intro hg) | (apply GJ.or; exact rfl; intro hg))
      refine radd_ok (d := { d with min := n1, max := n3 }) (x := x) hT h3 ⟨hx.kids, hx.last, hx.fields, hx.cases⟩ ⟨hs.kids, hs.last, hs.fields, hs.cases⟩ Take.auto Take.auto Take.auto (fun ro' a' hl' h' => ?_)
      have hk2 := hk ro' a' hl' h'
      repeat (first | exact endA | refine wkP ?_ | refine opB (fun b => ?_) | refine opA (fun a' c' hc1 hc2 => ?_) | (apply GJ.and; exact rfl; intro hg) | (apply GJ.or; exact rfl; intro hg))
      exact Wk.outS Sup.auto (.refl _) hk2
  · rw [if_neg h2] at hk
    repeat (first | exact endA | refine wkP ?_ | refine opB (fun b => ?_) | refine opA (fun a' c' hc1 hc2 => ?_) | (apply GJ.and; exact rfl; intro hg) | (apply GJ.or; exact rfl; intro hg))
    refine radd_ok (d := { d with max := mostD d }) (x := x) hT h ⟨hx.kids, hx.last, hx.fields, hx.cases⟩ ⟨hs.kids, hs.last, hs.fields, hs.cases⟩ Take.auto Take.auto Take.auto (fun ro' a' hl' h' => ?_)
    have hk2 := hk ro' a' hl' h'
    repeat (first | exact endA | refine wkP ?_ | refine opB (fun b => ?_) | refine opA (fun a' c' hc1 hc2 => ?_) | (apply GJ.and; exact rfl; intro hg) | (apply GJ.or; exact rfl; intro hg))
    exact Wk.outS Sup.auto (.refl _) hk2
end
end Go.Proofs.YtefipginoakecaaGreatDoor
end
section
/- Contracts of the reader: how many of something; what is counted. -/
namespace Go.E
open Go
theorem OpOk.after {P : Program} {op : Op} {ty : TypeId} {env : Env} {ro : Ro} {own : Chs} {K : Value → Ro → Chs → Prop} (h : OpOk P op ty env ro own (fun v ro1 own1 => ∃ c r, Take own1 c r ∧ ∀ ro', Le ro1 ro' → c.holds ro' → K v ro' r)) : OpOk P op ty env ro own K :=
  ⟨fun g hg d pos af gd => .mk fun ρ w hρ hw => by
    obtain ⟨v, w', h1, h2, ro2, own2, hl2, hs2, c, r, ht, hK⟩ := (h.run g hg d pos af gd).run ρ w hρ hw
    obtain ⟨ro3, hl3, hc, hs3⟩ := (hs2.perm ht.perm).freeze
    exact ⟨v, w', h1, h2, ro3, r, hl2.trans hl3, hs3, hK ro3 hl3 hc⟩⟩
/-- A slice put together that lasts at once. -/
theorem OpOk.buildSliceF {P : Program} {T : TT} [hT : TTab P T] {ty : TypeId} {env : Env} {ro : Ro} {own : Chs} {K : Value → Ro → Chs → Prop} {t e n : Nat} {ps : List (Nat × Operand)} {vs : List Value} {s : Nat} (hv : evs env (ps.map (·.2)) = some vs) (hp : ps.map (·.1) = List.range n) (ht : elemOf T t = some (e, s))
    (hn : Nat.ble (n * s) 1048576 = true) (h1 : vs.all (fun v => Nat.beq v.cells.size s) = true) (hk : ∀ ro' b, Le ro ro' → Rs ro' (some ⟨b, 0, none⟩) n n s (flat vs) → K (.slice (some ⟨b, 0, none⟩) n n) ro' own) :
    OpOk P (.buildSlice t n ps.toArray) ty env ro own K :=
  OpOk.after (OpOk.buildSlice hv hp ht hn h1 (fun b => ⟨_, _, Take.hit _ _, fun ro' hl hc => hk ro' b hl (Rs.last hc)⟩))
end Go.E
namespace Go.Proofs.YtefipginoakecaaGreatDoor
open Go Go.E
set_option linter.unusedVariables false
set_option linter.unusedSectionVars false
set_option linter.unusedSimpArgs false
set_option maxRecDepth 10000
def exprV (x : List UInt8 × Nat × Nat) : List Value := [str x.1, .int .u64 (x.2.1 : Int), .int .u64 (x.2.2 : Int)]
section
variable {ro : Ro} {own q q1 q2 : Chs} {K : Value → Ro → Chs → Prop} {l : List TokD} {s : PS} {a : SpecA} {la : Option Addr} {lc r : Nat}
set_option maxHeartbeats 4000000 in
theorem rexpr_ok (hM : MaxOk ro) (hT : ToksOk ro la lc l) (h : RdOk ro l s a) (t1 : Take own (rdC r la lc l s a) q1) (t2 : Take q1 (ndC s a) q2) (t3 : Take q2 (dfC s a) q)
    (hk : RdOk ro l (exprP numD (listE l) s).2 a → K (.agg (exprV (exprP numD (listE l) s).1).toArray) ro (rdC r la lc l (exprP numD (listE l) s).2 a :: ndC (exprP numD (listE l) s).2 a :: dfC (exprP numD (listE l) s).2 a :: q)) :
    CallOk Tryz.prog 147 #[ptr' r] ro own K := by
  refine CallOk.perm (three t1 t2 t3) ?_
  unfold exprP at hk
  dsimp only at hk
  refine CallOk.intro (args := [_]) (rs := [_]) T_ok Tryz.func147 Tryz.call147 rfl rfl (by kernel_rfl) rfl rfl ?_
  repeat (first | exact endA | refine wkP ?_ | refine opB (fun b => ?_) | refine opA (fun a' c' hc1 hc2 => ?_) | (apply GJ.and; exact rfl; intro hg) | (apply GJ.or; exact rfl; intro hg))
  refine must3 (t := [91]) hT h Take.auto Take.auto Take.auto (fun h1 => ?_)
  generalize mustP (listE l) [91] s = s1 at *
  repeat (first | exact endA | refine wkP ?_ | refine opB (fun b => ?_) | refine opA (fun a' c' hc1 hc2 => ?_) | (apply GJ.and; exact rfl; intro hg) | (apply GJ.or; exact rfl; intro hg))
  refine rpeek_ok hT h1 Take.auto ?_
  generalize hz : peekP (listE l) s1 = z at *
  obtain ⟨tk, ta, tt⟩ := z
  dsimp only [TokD.v] at hk ⊢
  by_cases h2 : tk = 2
  · subst h2
    rw [if_pos rfl] at hk
    repeat (first | exact endA | refine wkP ?_ | refine opB (fun b => ?_) | refine opA (fun a' c' hc1 hc2 => ?_) | (apply GJ.and; exact rfl; intro hg) | (apply GJ.or; exact rfl; intro hg))
    refine num3 hT h1 Take.auto Take.auto Take.auto (fun h2 => ?_)
    generalize numP numD (listE l) s1 = r1 at *
    obtain ⟨n1, s2⟩ := r1
    dsimp only at h2 hk ⊢
    repeat (first | exact endA | refine wkP ?_ | refine opB (fun b => ?_) | refine opA (fun a' c' hc1 hc2 => ?_) | (apply GJ.and; exact rfl; intro hg) | (apply GJ.or; exact rfl; intro hg))
    refine sign3 (t := [42]) hT h2 Take.auto Take.auto Take.auto (fun h3 => ?_)
    generalize signP (listE l) [42] s2 = m at *
    obtain ⟨mb, s3⟩ := m
    dsimp only at h3 hk ⊢
    cases mb with
    | false =>
      rw [if_pos rfl] at hk
      repeat (first | exact endA | refine wkP ?_ | refine opB (fun b => ?_) | refine opA (fun a' c' hc1 hc2 => ?_) | (apply GJ.and; exact rfl; intro hg) | (apply GJ.or; exact rfl; intro hg))
      refine must3 (t := [93]) hT h3 Take.auto Take.auto Take.auto (fun g4 => ?_)
      have hk2 := hk g4
      repeat (first | exact endA | refine wkP ?_ | refine opB (fun b => ?_) | refine opA (fun a' c' hc1 hc2 => ?_) | (apply GJ.and; exact rfl; intro hg) | (apply GJ.or; exact rfl; intro hg))
      exact Wk.outS Sup.auto (.refl _) hk2
    | true =>
      rw [if_neg (by decide)] at hk
      by_cases h0 : n1 = 0
      · subst h0
        rw [if_pos rfl] at hk
        repeat (first | exact endA | refine wkP ?_ | refine opB (fun b => ?_) | refine opA (fun a' c' hc1 hc2 => ?_) | (apply GJ.and; exact rfl; intro hg) | (apply GJ.or; exact rfl; intro hg))
        refine wrong3 (e := 1) (by decide) (by decide) hT h3 Take.auto Take.auto Take.auto (fun h4 => ?_)
        generalize wrongP 1 s3 = s4 at *
        repeat (first | exact endA | refine wkP ?_ | refine opB (fun b => ?_) | refine opA (fun a' c' hc1 hc2 => ?_) | (apply GJ.and; exact rfl; intro hg) | (apply GJ.or; exact rfl; intro hg))
        refine name3 hM hT h4 Take.auto Take.auto Take.auto (fun g1 => ?_)
        generalize nameP (listE l) s4 = x at *
        obtain ⟨xr, s5⟩ := x
        dsimp only at g1 hk ⊢
        repeat (first | exact endA | refine wkP ?_ | refine opB (fun b => ?_) | refine opA (fun a' c' hc1 hc2 => ?_) | (apply GJ.and; exact rfl; intro hg) | (apply GJ.or; exact rfl; intro hg))
        refine sign3 (t := [43]) hT g1 Take.auto Take.auto Take.auto (fun g2 => ?_)
        generalize signP (listE l) [43] s5 = p at *
        obtain ⟨pb, s6⟩ := p
        dsimp only at g2 hk ⊢
        cases pb with
        | true =>
          rw [if_pos rfl] at hk
          repeat (first | exact endA | refine wkP ?_ | refine opB (fun b => ?_) | refine opA (fun a' c' hc1 hc2 => ?_) | (apply GJ.and; exact rfl; intro hg) | (apply GJ.or; exact rfl; intro hg))
          refine num3 hT g2 Take.auto Take.auto Take.auto (fun g3 => ?_)
          generalize numP numD (listE l) s6 = a3 at *
          obtain ⟨n3, s7⟩ := a3
          dsimp only at g3 hk ⊢
          repeat (first | exact endA | refine wkP ?_ | refine opB (fun b => ?_) | refine opA (fun a' c' hc1 hc2 => ?_) | (apply GJ.and; exact rfl; intro hg) | (apply GJ.or; exact rfl; intro hg))
          refine must3 (t := [93]) hT g3 Take.auto Take.auto Take.auto (fun g4 => ?_)
          have hk2 := hk g4
          repeat (first | exact endA | refine wkP ?_ | refine opB (fun b => ?_) | refine opA (fun a' c' hc1 hc2 => ?_) | (apply GJ.and; exact rfl; intro hg) | (apply GJ.or; exact rfl; intro hg))
          exact Wk.outS Sup.auto (.refl _) hk2
        | false =>
          rw [if_neg (by decide)] at hk
          repeat (first | exact endA | refine wkP ?_ | refine opB (fun b => ?_) | refine opA (fun a' c' hc1 hc2 => ?_) | (apply GJ.and; exact rfl; intro hg) | (apply GJ.or; exact rfl; intro hg))
          refine must3 (t := [93]) hT g2 Take.auto Take.auto Take.auto (fun g4 => ?_)
          have hk2 := hk g4
          repeat (first | exact endA | refine wkP ?_ | refine opB (fun b => ?_) | refine opA (fun a' c' hc1 hc2 => ?_) | (apply GJ.and; exact rfl; intro hg) | (apply GJ.or; exact rfl; intro hg))
          exact Wk.outS Sup.auto (.refl _) hk2
      · rw [if_neg h0] at hk
        have h0' : ¬ ((n1 : Int) = 0) := by omega
        repeat (first | exact endA | refine wkP ?_ | refine opB (fun b => ?_) | refine opA (fun a' c' hc1 hc2 => ?_) | (apply GJ.and; exact rfl; intro hg) | (apply GJ.or; exact rfl; intro hg))
        refine name3 hM hT h3 Take.auto Take.auto Take.auto (fun g1 => ?_)
        generalize nameP (listE l) s3 = x at *
        obtain ⟨xr, s5⟩ := x
        dsimp only at g1 hk ⊢
        repeat (first | exact endA | refine wkP ?_ | refine opB (fun b => ?_) | refine opA (fun a' c' hc1 hc2 => ?_) | (apply GJ.and; exact rfl; intro hg) | (apply GJ.or; exact rfl; intro hg))
        refine sign3 (t := [43]) hT g1 Take.auto Take.auto Take.auto (fun g2 => ?_)
        generalize signP (listE l) [43] s5 = p at *
        obtain ⟨pb, s6⟩ := p
        dsimp only at g2 hk ⊢
        cases pb with
        | true =>
          rw [if_pos rfl] at hk
          repeat (first | exact endA | refine wkP ?_ | refine opB (fun b => ?_) | refine opA (fun a' c' hc1 hc2 => ?_) | (apply GJ.and; exact rfl; intro hg) | (apply GJ.or; exact rfl; intro hg))
          refine num3 hT g2 Take.auto Take.auto Take.auto (fun g3 => ?_)
          generalize numP numD (listE l) s6 = a3 at *
          obtain ⟨n3, s7⟩ := a3
          dsimp only at g3 hk ⊢
          repeat (first | exact endA | refine wkP ?_ | refine opB (fun b => ?_) | refine opA (fun a' c' hc1 hc2 => ?_) | (apply GJ.and; exact rfl; intro hg) | (apply GJ.or; exact rfl; intro hg))
          refine must3 (t := [93]) hT g3 Take.auto Take.auto Take.auto (fun g4 => ?_)
          have hk2 := hk g4
          repeat (first | exact endA | refine wkP ?_ | refine opB (fun b => ?_) | refine opA (fun a' c' hc1 hc2 => ?_) | (apply GJ.and; exact rfl; intro hg) | (apply GJ.or; exact rfl; intro hg))
          exact Wk.outS Sup.auto (.refl _) hk2
        | false =>
          rw [if_neg (by decide)] at hk
          repeat (first | exact endA | refine wkP ?_ | refine opB (fun b => ?_) | refine opA (fun a' c' hc1 hc2 => ?_) | (apply GJ.and; exact rfl; intro hg) | (apply GJ.or; exact rfl; intro hg))
          refine must3 (t := [93]) hT g2 Take.auto Take.auto Take.auto (fun g4 => ?_)
          have hk2 := hk g4
          repeat (first | exact endA | refine wkP ?_ | refine opB (fun b => ?_) | refine opA (fun a' c' hc1 hc2 => ?_) | (apply GJ.and; exact rfl; intro hg) | (apply GJ.or; exact rfl; intro hg))
          exact Wk.outS Sup.auto (.refl _) hk2
  · rw [if_neg h2] at hk
    repeat (first | exact endA | refine wkP ?_ | refine opB (fun b => ?_) | refine opA (fun a' c' hc1 hc2 => ?_) | (apply GJ.and; exact rfl; intro hg) | (apply GJ.or; exact rfl; intro hg))
    refine name3 hM hT h1 Take.auto Take.auto Take.auto (fun g1 => ?_)
    generalize nameP (listE l) s1 = x at *
    obtain ⟨xr, s5⟩ := x
    dsimp only at g1 hk ⊢
    repeat (first | exact endA | refine wkP ?_ | refine opB (fun b => ?_) | refine opA (fun a' c' hc1 hc2 => ?_) | (apply GJ.and; exact rfl; intro hg) | (apply GJ.or; exact rfl; intro hg))
    refine sign3 (t := [43]) hT g1 Take.auto Take.auto Take.auto (fun g2 => ?_)
    generalize signP (listE l) [43] s5 = p at *
    obtain ⟨pb, s6⟩ := p
    dsimp only at g2 hk ⊢
    cases pb with
    | true =>
      rw [if_pos rfl] at hk
      repeat (first | exact endA | refine wkP ?_ | refine opB (fun b => ?_) | refine opA (fun a' c' hc1 hc2 => ?_) | (apply GJ.and; exact rfl; intro hg) | (apply GJ.or; exact rfl; intro hg))
      refine num3 hT g2 Take.auto Take.auto Take.auto (fun g3 => ?_)
      generalize numP numD (listE l) s6 = a3 at *
      obtain ⟨n3, s7⟩ := a3
      dsimp only at g3 hk ⊢
      repeat (first | exact endA | refine wkP ?_ | refine opB (fun b => ?_) | refine opA (fun a' c' hc1 hc2 => ?_) | (apply GJ.and; exact rfl; intro hg) | (apply GJ.or; exact rfl; intro hg))
      refine must3 (t := [93]) hT g3 Take.auto Take.auto Take.auto (fun g4 => ?_)
      have hk2 := hk g4
      repeat (first | exact endA | refine wkP ?_ | refine opB (fun b => ?_) | refine opA (fun a' c' hc1 hc2 => ?_) | (apply GJ.and; exact rfl; intro hg) | (apply GJ.or; exact rfl; intro hg))
      exact Wk.outS Sup.auto (.refl _) hk2
    | false =>
      rw [if_neg (by decide)] at hk
      repeat (first | exact endA | refine wkP ?_ | refine opB (fun b => ?_) | refine opA (fun a' c' hc1 hc2 => ?_) | (apply GJ.and; exact rfl; intro hg) | (apply GJ.or; exact rfl; intro hg))
      refine must3 (t := [93]) hT g2 Take.auto Take.auto Take.auto (fun g4 => ?_)
      have hk2 := hk g4
      repeat (first | exact endA | refine wkP ?_ | refine opB (fun b => ?_) | refine opA (fun a' c' hc1 hc2 => ?_) | (apply GJ.and; exact rfl; intro hg) | (apply GJ.or; exact rfl; intro hg))
      exact Wk.outS Sup.auto (.refl _) hk2
end
/-- What the reader of a type does, so deep. -/
structure KOk (la : Option Addr) (lc r : Nat) (l : List TokD) (deep : Int) (F : PS → Nat × PS) : Prop where
  run : ∀ {ro : Ro} {own q q1 q2 : Chs} {K : Value → Ro → Chs → Prop} {s : PS} {a : SpecA}, MaxOk ro → ToksOk ro la lc l → RdOk ro l s a → Take own (rdC r la lc l s a) q1 → Take q1 (ndC s a) q2 → Take q2 (dfC s a) q →
    (∀ ro' a', Le ro ro' → RdOk ro' l (F s).2 a' → K (.int .i64 ((F s).1 : Int)) ro' (rdC r la lc l (F s).2 a' :: ndC (F s).2 a' :: dfC (F s).2 a' :: q)) → CallOk Tryz.prog 101 #[ptr' r, .int .i64 deep] ro own K
section
variable {ro : Ro} {own q q1 q2 : Chs} {K : Value → Ro → Chs → Prop} {l : List TokD} {s : PS} {a : SpecA} {la : Option Addr} {lc r : Nat} {deep : Nat} {F : PS → Nat × PS}
set_option maxHeartbeats 4000000 in
theorem rcounted_ok {kd : Int} (hF : KOk la lc r l ((deep : Int) + 1) F) (hd : deep ≤ 100) (hM : MaxOk ro) (hT : ToksOk ro la lc l) (h : RdOk ro l s a) (t1 : Take own (rdC r la lc l s a) q1) (t2 : Take q1 (ndC s a) q2) (t3 : Take q2 (dfC s a) q)
    (hk : ∀ ro' a', Le ro ro' → RdOk ro' l (countedP numD (listE l) F kd s).2 a' → K (.int .i64 ((countedP numD (listE l) F kd s).1 : Int)) ro' (rdC r la lc l (countedP numD (listE l) F kd s).2 a' :: ndC (countedP numD (listE l) F kd s).2 a' :: dfC (countedP numD (listE l) F kd s).2 a' :: q)) :
    CallOk Tryz.prog 148 #[ptr' r, .int .i64 kd, .int .i64 (deep : Int)] ro own K := by
  refine CallOk.perm (three t1 t2 t3) ?_
  unfold countedP at hk
  dsimp only at hk
  refine CallOk.intro (args := [_, _, _]) (rs := [_]) T_ok Tryz.func148 Tryz.call148 rfl rfl (by kernel_rfl) rfl rfl ?_
  repeat (first | exact endA | refine wkP ?_ | refine opB (fun b => ?_) | refine opA (fun a' c' hc1 hc2 => ?_) | (apply GJ.and; exact rfl; intro hg) | (apply GJ.or; exact rfl; intro hg))
  refine rexpr_ok hM hT h Take.auto Take.auto Take.auto (fun h1 => ?_)
  generalize exprP numD (listE l) s = x at *
  obtain ⟨⟨xr, xm, xa⟩, s1⟩ := x
  dsimp only [exprV] at h1 hk ⊢
  repeat (first | exact endA | refine wkP ?_ | refine opB (fun b => ?_) | refine opA (fun a' c' hc1 hc2 => ?_) | (apply GJ.and; exact rfl; intro hg) | (apply GJ.or; exact rfl; intro hg))
  refine hF.run hM hT h1 Take.auto Take.auto Take.auto (fun ro2 a2 hl2 h2 => ?_)
  generalize F s1 = k at *
  obtain ⟨kn, s2⟩ := k
  dsimp only at h2 hk ⊢
  repeat (first | exact endA | refine wkP ?_)
  refine OpOk.buildSliceF rfAuto rfAuto rfAuto rfAuto rfAuto (fun ro3 b3 hl3 hb3 => ?_)
  repeat (first | exact endA | refine wkP ?_)
  have h3 := h2.up hl3
  refine radd_ok (d := { node0 with kind := kd, ereg := xr, emul := xm, eadd := xa, kids := [(kn : Int)] }) (x := { nodeZ with ka := some ⟨b3, 0, none⟩, kc := 1 }) ((hT.up hl2).up hl3) h3 ⟨hb3, Rs.nil _ 1, Rs.nil _ 5, Rs.nil _ 2⟩ ⟨by simp, by simp [node0], by simp [node0], by simp [node0]⟩ Take.auto Take.auto Take.auto (fun ro4 a4 hl4 h4 => ?_)
  have hk2 := hk ro4 a4 ((hl2.trans hl3).trans hl4) h4
  repeat (first | exact endA | refine wkP ?_ | refine opB (fun b => ?_) | refine opA (fun a' c' hc1 hc2 => ?_) | (apply GJ.and; exact rfl; intro hg) | (apply GJ.or; exact rfl; intro hg))
  exact Wk.outS Sup.auto (.refl _) hk2
end
end Go.Proofs.YtefipginoakecaaGreatDoor
end
section
/- Contracts of the reader: a field. -/
namespace Go.Proofs.YtefipginoakecaaGreatDoor
open Go Go.E
set_option linter.unusedVariables false
set_option linter.unusedSectionVars false
set_option linter.unusedSimpArgs false
set_option maxRecDepth 10000
theorem eat_no {E : PE} {k : Nat} {t : List UInt8} {s : PS} (h : (eatP E k t s).1 = false) : s = (eatP E k t s).2 := by
  unfold eatP at h ⊢
  split
  · rename_i hi; rw [if_pos hi] at h; cases h
  · rfl
theorem kw_no {E : PE} {t : List UInt8} {s : PS} (h : (kwP E t s).1 = false) : s = (kwP E t s).2 := eat_no h
section
variable {ro : Ro} {own q q1 q2 : Chs} {K : Value → Ro → Chs → Prop} {l : List TokD} {s : PS} {a : SpecA} {la : Option Addr} {lc r : Nat} {deep : Nat} {F : PS → Nat × PS}
set_option maxHeartbeats 8000000 in
theorem rfield_ok (hF : KOk la lc r l ((deep : Int) + 1) F) (hd : deep ≤ 100) (hM : MaxOk ro) (hT : ToksOk ro la lc l) (h : RdOk ro l s a) (t1 : Take own (rdC r la lc l s a) q1) (t2 : Take q1 (ndC s a) q2) (t3 : Take q2 (dfC s a) q)
    (hk : ∀ ro' a', Le ro ro' → RdOk ro' l (fieldP (listE l) F s).2 a' → K (.agg (fieldV (fieldP (listE l) F s).1).toArray) ro' (rdC r la lc l (fieldP (listE l) F s).2 a' :: ndC (fieldP (listE l) F s).2 a' :: dfC (fieldP (listE l) F s).2 a' :: q)) :
    CallOk Tryz.prog 144 #[ptr' r, .int .i64 (deep : Int)] ro own K := by
  refine CallOk.perm (three t1 t2 t3) ?_
  unfold fieldP deriveP at hk
  dsimp only at hk
  refine CallOk.intro (args := [_, _]) (rs := [_]) T_ok Tryz.func144 Tryz.call144 rfl rfl (by kernel_rfl) rfl rfl ?_
  repeat (first | exact endA | refine wkP ?_ | refine opB (fun b => ?_) | refine opA (fun a' c' hc1 hc2 => ?_) | (apply GJ.and; exact rfl; intro hg) | (apply GJ.or; exact rfl; intro hg))
  refine name3 hM hT h Take.auto Take.auto Take.auto (fun h1 => ?_)
  generalize nameP (listE l) s = x at *
  obtain ⟨xn, s1⟩ := x
  dsimp only at h1 hk ⊢
  repeat (first | exact endA | refine wkP ?_ | refine opB (fun b => ?_) | refine opA (fun a' c' hc1 hc2 => ?_) | (apply GJ.and; exact rfl; intro hg) | (apply GJ.or; exact rfl; intro hg))
  refine must3 (t := [58]) hT h1 Take.auto Take.auto Take.auto (fun h2 => ?_)
  generalize mustP (listE l) [58] s1 = s2 at *
  repeat (first | exact endA | refine wkP ?_ | refine opB (fun b => ?_) | refine opA (fun a' c' hc1 hc2 => ?_) | (apply GJ.and; exact rfl; intro hg) | (apply GJ.or; exact rfl; intro hg))
  refine hF.run hM hT h2 Take.auto Take.auto Take.auto (fun ro2 a2 hl2 h3 => ?_)
  generalize F s2 = k at *
  obtain ⟨kn, s3⟩ := k
  dsimp only at h3 hk ⊢
  have hM2 := hM.le hl2
  have hT2 := hT.up hl2
  repeat (first | exact endA | refine wkP ?_ | refine opB (fun b => ?_) | refine opA (fun a' c' hc1 hc2 => ?_) | (apply GJ.and; exact rfl; intro hg) | (apply GJ.or; exact rfl; intro hg))
  refine sign3 (t := [61]) hT2 h3 Take.auto Take.auto Take.auto (fun h4 => ?_)
  generalize signP (listE l) [61] s3 = e at *
  obtain ⟨eb, s4⟩ := e
  dsimp only at h4 hk ⊢
  cases eb with
  | false =>
    rw [if_neg (by decide)] at hk
    repeat (first | exact endA | refine wkP ?_ | refine opB (fun b => ?_) | refine opA (fun a' c' hc1 hc2 => ?_) | (apply GJ.and; exact rfl; intro hg) | (apply GJ.or; exact rfl; intro hg))
    refine must3 (t := [59]) hT2 h4 Take.auto Take.auto Take.auto (fun g4 => ?_)
    have hk2 := hk ro2 a2 hl2 g4
    repeat (first | exact endA | refine wkP ?_ | refine opB (fun b => ?_) | refine opA (fun a' c' hc1 hc2 => ?_) | (apply GJ.and; exact rfl; intro hg) | (apply GJ.or; exact rfl; intro hg))
    exact Wk.outS Sup.auto (.refl _) hk2
  | true =>
    rw [if_pos rfl] at hk
    repeat (first | exact endA | refine wkP ?_ | refine opB (fun b => ?_) | refine opA (fun a' c' hc1 hc2 => ?_) | (apply GJ.and; exact rfl; intro hg) | (apply GJ.or; exact rfl; intro hg))
    refine word3 (t := [115, 105, 122, 101]) hT2 h4 Take.auto Take.auto Take.auto (fun h5 => ?_)
    have hn1 := kw_no (E := listE l) (t := [115, 105, 122, 101]) (s := s4)
    generalize kwP (listE l) [115, 105, 122, 101] s4 = w1 at *
    obtain ⟨b1, v1⟩ := w1
    dsimp only at h5 hn1 hk ⊢
    cases b1 with
    | true =>
      simp only [↓reduceIte] at hk
      repeat (first | exact endA | refine wkP ?_ | refine opB (fun b => ?_) | refine opA (fun a' c' hc1 hc2 => ?_) | (apply GJ.and; exact rfl; intro hg) | (apply GJ.or; exact rfl; intro hg))
      refine must3 (t := [40]) hT2 h5 Take.auto Take.auto Take.auto (fun g1 => ?_)
      generalize mustP (listE l) [40] v1 = u1 at *
      repeat (first | exact endA | refine wkP ?_ | refine opB (fun b => ?_) | refine opA (fun a' c' hc1 hc2 => ?_) | (apply GJ.and; exact rfl; intro hg) | (apply GJ.or; exact rfl; intro hg))
      refine name3 hM2 hT2 g1 Take.auto Take.auto Take.auto (fun g2 => ?_)
      generalize nameP (listE l) u1 = o at *
      obtain ⟨on, u2⟩ := o
      dsimp only at g2 hk ⊢
      rw [if_neg (by decide)] at hk
      repeat (first | exact endA | refine wkP ?_ | refine opB (fun b => ?_) | refine opA (fun a' c' hc1 hc2 => ?_) | (apply GJ.and; exact rfl; intro hg) | (apply GJ.or; exact rfl; intro hg))
      refine must3 (t := [41]) hT2 g2 Take.auto Take.auto Take.auto (fun g3 => ?_)
      generalize mustP (listE l) [41] u2 = u3 at *
      repeat (first | exact endA | refine wkP ?_ | refine opB (fun b => ?_) | refine opA (fun a' c' hc1 hc2 => ?_) | (apply GJ.and; exact rfl; intro hg) | (apply GJ.or; exact rfl; intro hg))
      refine must3 (t := [59]) hT2 g3 Take.auto Take.auto Take.auto (fun g4 => ?_)
      have hk2 := hk ro2 a2 hl2 g4
      repeat (first | exact endA | refine wkP ?_ | refine opB (fun b => ?_) | refine opA (fun a' c' hc1 hc2 => ?_) | (apply GJ.and; exact rfl; intro hg) | (apply GJ.or; exact rfl; intro hg))
      exact Wk.outS Sup.auto (.refl _) hk2
    | false =>
      obtain rfl := hn1 rfl
      simp only [Bool.false_eq_true, ↓reduceIte] at hk
      repeat (first | exact endA | refine wkP ?_ | refine opB (fun b => ?_) | refine opA (fun a' c' hc1 hc2 => ?_) | (apply GJ.and; exact rfl; intro hg) | (apply GJ.or; exact rfl; intro hg))
      refine word3 (t := [99, 111, 117, 110, 116]) hT2 h4 Take.auto Take.auto Take.auto (fun h5 => ?_)
      have hn1 := kw_no (E := listE l) (t := [99, 111, 117, 110, 116]) (s := s4)
      generalize kwP (listE l) [99, 111, 117, 110, 116] s4 = w1 at *
      obtain ⟨b1, v1⟩ := w1
      dsimp only at h5 hn1 hk ⊢
      cases b1 with
      | true =>
        simp only [↓reduceIte] at hk
        repeat (first | exact endA | refine wkP ?_ | refine opB (fun b => ?_) | refine opA (fun a' c' hc1 hc2 => ?_) | (apply GJ.and; exact rfl; intro hg) | (apply GJ.or; exact rfl; intro hg))
        refine must3 (t := [40]) hT2 h5 Take.auto Take.auto Take.auto (fun g1 => ?_)
        generalize mustP (listE l) [40] v1 = u1 at *
        repeat (first | exact endA | refine wkP ?_ | refine opB (fun b => ?_) | refine opA (fun a' c' hc1 hc2 => ?_) | (apply GJ.and; exact rfl; intro hg) | (apply GJ.or; exact rfl; intro hg))
        refine name3 hM2 hT2 g1 Take.auto Take.auto Take.auto (fun g2 => ?_)
        generalize nameP (listE l) u1 = o at *
        obtain ⟨on, u2⟩ := o
        dsimp only at g2 hk ⊢
        rw [if_neg (by decide)] at hk
        repeat (first | exact endA | refine wkP ?_ | refine opB (fun b => ?_) | refine opA (fun a' c' hc1 hc2 => ?_) | (apply GJ.and; exact rfl; intro hg) | (apply GJ.or; exact rfl; intro hg))
        refine must3 (t := [41]) hT2 g2 Take.auto Take.auto Take.auto (fun g3 => ?_)
        generalize mustP (listE l) [41] u2 = u3 at *
        repeat (first | exact endA | refine wkP ?_ | refine opB (fun b => ?_) | refine opA (fun a' c' hc1 hc2 => ?_) | (apply GJ.and; exact rfl; intro hg) | (apply GJ.or; exact rfl; intro hg))
        refine must3 (t := [59]) hT2 g3 Take.auto Take.auto Take.auto (fun g4 => ?_)
        have hk2 := hk ro2 a2 hl2 g4
        repeat (first | exact endA | refine wkP ?_ | refine opB (fun b => ?_) | refine opA (fun a' c' hc1 hc2 => ?_) | (apply GJ.and; exact rfl; intro hg) | (apply GJ.or; exact rfl; intro hg))
        exact Wk.outS Sup.auto (.refl _) hk2
      | false =>
        obtain rfl := hn1 rfl
        simp only [Bool.false_eq_true, ↓reduceIte] at hk
        repeat (first | exact endA | refine wkP ?_ | refine opB (fun b => ?_) | refine opA (fun a' c' hc1 hc2 => ?_) | (apply GJ.and; exact rfl; intro hg) | (apply GJ.or; exact rfl; intro hg))
        refine word3 (t := [99, 114, 99]) hT2 h4 Take.auto Take.auto Take.auto (fun h5 => ?_)
        have hn1 := kw_no (E := listE l) (t := [99, 114, 99]) (s := s4)
        generalize kwP (listE l) [99, 114, 99] s4 = w1 at *
        obtain ⟨b1, v1⟩ := w1
        dsimp only at h5 hn1 hk ⊢
        cases b1 with
        | true =>
          simp only [↓reduceIte] at hk
          repeat (first | exact endA | refine wkP ?_ | refine opB (fun b => ?_) | refine opA (fun a' c' hc1 hc2 => ?_) | (apply GJ.and; exact rfl; intro hg) | (apply GJ.or; exact rfl; intro hg))
          refine must3 (t := [40]) hT2 h5 Take.auto Take.auto Take.auto (fun g1 => ?_)
          generalize mustP (listE l) [40] v1 = u1 at *
          repeat (first | exact endA | refine wkP ?_ | refine opB (fun b => ?_) | refine opA (fun a' c' hc1 hc2 => ?_) | (apply GJ.and; exact rfl; intro hg) | (apply GJ.or; exact rfl; intro hg))
          refine name3 hM2 hT2 g1 Take.auto Take.auto Take.auto (fun g2 => ?_)
          generalize nameP (listE l) u1 = o at *
          obtain ⟨on, u2⟩ := o
          dsimp only at g2 hk ⊢
          repeat (first | exact endA | refine wkP ?_ | refine opB (fun b => ?_) | refine opA (fun a' c' hc1 hc2 => ?_) | (apply GJ.and; exact rfl; intro hg) | (apply GJ.or; exact rfl; intro hg))
          refine must3 (t := [46, 46]) hT2 g2 Take.auto Take.auto Take.auto (fun g3 => ?_)
          generalize mustP (listE l) [46, 46] u2 = u3 at *
          repeat (first | exact endA | refine wkP ?_ | refine opB (fun b => ?_) | refine opA (fun a' c' hc1 hc2 => ?_) | (apply GJ.and; exact rfl; intro hg) | (apply GJ.or; exact rfl; intro hg))
          refine name3 hM2 hT2 g3 Take.auto Take.auto Take.auto (fun g4 => ?_)
          generalize nameP (listE l) u3 = o at *
          obtain ⟨tn, u4⟩ := o
          dsimp only at g4 hk ⊢
          repeat (first | exact endA | refine wkP ?_ | refine opB (fun b => ?_) | refine opA (fun a' c' hc1 hc2 => ?_) | (apply GJ.and; exact rfl; intro hg) | (apply GJ.or; exact rfl; intro hg))
          refine must3 (t := [41]) hT2 g4 Take.auto Take.auto Take.auto (fun g5 => ?_)
          generalize mustP (listE l) [41] u4 = u5 at *
          repeat (first | exact endA | refine wkP ?_ | refine opB (fun b => ?_) | refine opA (fun a' c' hc1 hc2 => ?_) | (apply GJ.and; exact rfl; intro hg) | (apply GJ.or; exact rfl; intro hg))
          refine must3 (t := [59]) hT2 g5 Take.auto Take.auto Take.auto (fun g6 => ?_)
          have hk2 := hk ro2 a2 hl2 g6
          repeat (first | exact endA | refine wkP ?_ | refine opB (fun b => ?_) | refine opA (fun a' c' hc1 hc2 => ?_) | (apply GJ.and; exact rfl; intro hg) | (apply GJ.or; exact rfl; intro hg))
          exact Wk.outS Sup.auto (.refl _) hk2
        | false =>
          obtain rfl := hn1 rfl
          simp only [Bool.false_eq_true, ↓reduceIte] at hk
          repeat (first | exact endA | refine wkP ?_ | refine opB (fun b => ?_) | refine opA (fun a' c' hc1 hc2 => ?_) | (apply GJ.and; exact rfl; intro hg) | (apply GJ.or; exact rfl; intro hg))
          refine wrong3 (e := 5) (by decide) (by decide) hT2 h4 Take.auto Take.auto Take.auto (fun h5 => ?_)
          generalize wrongP 5 s4 = v1 at *
          repeat (first | exact endA | refine wkP ?_ | refine opB (fun b => ?_) | refine opA (fun a' c' hc1 hc2 => ?_) | (apply GJ.and; exact rfl; intro hg) | (apply GJ.or; exact rfl; intro hg))
          refine must3 (t := [40]) hT2 h5 Take.auto Take.auto Take.auto (fun g1 => ?_)
          generalize mustP (listE l) [40] v1 = u1 at *
          repeat (first | exact endA | refine wkP ?_ | refine opB (fun b => ?_) | refine opA (fun a' c' hc1 hc2 => ?_) | (apply GJ.and; exact rfl; intro hg) | (apply GJ.or; exact rfl; intro hg))
          refine name3 hM2 hT2 g1 Take.auto Take.auto Take.auto (fun g2 => ?_)
          generalize nameP (listE l) u1 = o at *
          obtain ⟨on, u2⟩ := o
          dsimp only at g2 hk ⊢
          rw [if_neg (by decide)] at hk
          repeat (first | exact endA | refine wkP ?_ | refine opB (fun b => ?_) | refine opA (fun a' c' hc1 hc2 => ?_) | (apply GJ.and; exact rfl; intro hg) | (apply GJ.or; exact rfl; intro hg))
          refine must3 (t := [41]) hT2 g2 Take.auto Take.auto Take.auto (fun g3 => ?_)
          generalize mustP (listE l) [41] u2 = u3 at *
          repeat (first | exact endA | refine wkP ?_ | refine opB (fun b => ?_) | refine opA (fun a' c' hc1 hc2 => ?_) | (apply GJ.and; exact rfl; intro hg) | (apply GJ.or; exact rfl; intro hg))
          refine must3 (t := [59]) hT2 g3 Take.auto Take.auto Take.auto (fun g4 => ?_)
          have hk2 := hk ro2 a2 hl2 g4
          repeat (first | exact endA | refine wkP ?_ | refine opB (fun b => ?_) | refine opA (fun a' c' hc1 hc2 => ?_) | (apply GJ.and; exact rfl; intro hg) | (apply GJ.or; exact rfl; intro hg))
          exact Wk.outS Sup.auto (.refl _) hk2
end
end Go.Proofs.YtefipginoakecaaGreatDoor
end
section
/- Contracts of the reader: a record. -/
namespace Go.Proofs.YtefipginoakecaaGreatDoor
open Go Go.E
set_option linter.unusedVariables false
set_option linter.unusedSectionVars false
set_option linter.unusedSimpArgs false
set_option maxRecDepth 10000
section
variable {ro : Ro} {own q q1 q2 : Chs} {K : Value → Ro → Chs → Prop} {l : List TokD} {s : PS} {a : SpecA} {la : Option Addr} {lc r : Nat} {deep : Nat} {F : PS → Nat × PS}
set_option maxHeartbeats 8000000 in
theorem rrecord_ok (hF : KOk la lc r l ((deep : Int) + 1) F) (hst : ∀ s, s.code ≠ 0 → (F s).2.code ≠ 0) (hd : deep ≤ 100) (hM : MaxOk ro) (hT : ToksOk ro la lc l) (h : RdOk ro l s a) (t1 : Take own (rdC r la lc l s a) q1) (t2 : Take q1 (ndC s a) q2) (t3 : Take q2 (dfC s a) q)
    (hk : ∀ ro' a', Le ro ro' → RdOk ro' l (recordP (listE l) F s).2 a' → K (.int .i64 ((recordP (listE l) F s).1 : Int)) ro' (rdC r la lc l (recordP (listE l) F s).2 a' :: ndC (recordP (listE l) F s).2 a' :: dfC (recordP (listE l) F s).2 a' :: q)) :
    CallOk Tryz.prog 125 #[ptr' r, .int .i64 (deep : Int)] ro own K := by
  refine CallOk.perm (three t1 t2 t3) ?_
  unfold recordP at hk
  dsimp only at hk
  refine CallOk.intro (args := [_, _]) (rs := [_]) T_ok Tryz.func125 Tryz.call125 rfl rfl (by kernel_rfl) rfl rfl ?_
  repeat (first | exact endA | refine wkP ?_ | refine opB (fun b => ?_) | refine opA (fun a' c' hc1 hc2 => ?_) | (apply GJ.and; exact rfl; intro hg) | (apply GJ.or; exact rfl; intro hg))
  refine must3 (t := [123]) hT h Take.auto Take.auto Take.auto (fun h1 => ?_)
  generalize mustP (listE l) [123] s = s1 at *
  obtain ⟨R, hR⟩ : ∃ R, R = fieldsP (listE l) F 70 [] s1 := ⟨_, rfl⟩
  rw [← hR] at hk
  obtain ⟨bN, hbN⟩ : ∃ z : Nat, z = b := ⟨_, rfl⟩
  subst hbN
  repeat (first | exact endA | refine wkP ?_ | refine opB (fun b => ?_) | refine opA (fun a' c' hc1 hc2 => ?_) | (apply GJ.and; exact rfl; intro hg) | (apply GJ.or; exact rfl; intro hg))
  refine LoopOk.auto (ι := List FieldD × PS × SpecA × Option Addr × Nat) Keep.auto (fun (fs, s, a, fa, fc) => []) (fun (fs, s, a, fa, fc) => rdC r la lc l s a :: ndC s a :: dfC s a :: .sl fa fs.length fc 56 5 (fieldsV fs) :: .blk bN 41 (nodeV { node0 with kind := 5, fields := fs } { nodeZ with fa := fa, fc := fc }) :: q) (fun (fs, s, a, fa, fc) ro2 => RdOk ro2 l s a ∧ fieldsP (listE l) F (70 - fs.length) fs s = R ∧ (fs.length ≤ 64 ∨ (fs.length = 65 ∧ s.code ≠ 0)) ∧ fs.length ≤ fc ∧ fc ≤ maxLen) (fun (fs, s, a, fa, fc) => 70 - fs.length) ([], s1, a, none, 0) ?_ Sub.auto Sup.auto ?_
  · exact ⟨h1, hR.symm, .inl (Nat.zero_le _), Nat.le_refl _, Nat.zero_le _⟩
  clear h1 hR h
  rintro ⟨fs, s, a, fa, fc⟩ ro2 hl2 ⟨i1, i2, i3, i4, i5⟩
  dsimp only [List.cons_append, List.nil_append] at i1 i2 i3 i4 i5 ⊢
  dsimp only [nodeV, node0, nodeZ]
  have hM2 := hM.le hl2
  have hT2 := hT.up hl2
  have hfl := fieldsV_len fs
  rw [show 70 - fs.length = (69 - fs.length) + 1 by omega, fieldsP] at i2
  repeat (first | exact endA | refine wkP ?_ | refine opB (fun b => ?_) | refine opA (fun a' c' hc1 hc2 => ?_) | (apply GJ.and; exact rfl; intro hg) | (apply GJ.or; exact rfl; intro hg))
  refine rok_ok i1 Take.auto ?_
  by_cases hc : s.code = 0
  · rw [if_neg (fun h => h hc)] at i2
    rw [decide_eq_true hc]
    repeat (first | exact endA | refine wkP ?_ | refine opB (fun b => ?_) | refine opA (fun a' c' hc1 hc2 => ?_) | (apply GJ.and; exact rfl; intro hg) | (apply GJ.or; exact rfl; intro hg))
    refine sign3 (t := [125]) hT2 i1 Take.auto Take.auto Take.auto (fun h2 => ?_)
    have hpos : (signP (listE l) [125] s).1 = true → 1 ≤ (signP (listE l) [125] s).2.at' := fun hh => by
      unfold signP eatP at hh ⊢
      split
      · exact Nat.succ_pos _
      · rename_i hn; rw [if_neg hn] at hh; cases hh
    generalize signP (listE l) [125] s = e at *
    obtain ⟨eb, s3⟩ := e
    dsimp only at h2 hpos i2 ⊢
    cases eb with
    | true =>
      rw [if_pos rfl] at i2
      subst i2
      dsimp only at hk
      have hpos := hpos rfl
      repeat (first | exact endA | refine wkP ?_ | refine opB (fun b => ?_) | refine opA (fun a' c' hc1 hc2 => ?_) | (apply GJ.and; exact rfl; intro hg) | (apply GJ.or; exact rfl; intro hg))
      refine rok_ok h2 Take.auto ?_
      by_cases hb : s3.code = 0 ∧ fs.length = 0
      · rw [if_pos hb] at hk
        rw [decide_eq_true hb.1]
        have hb2 := hb.2
        have hat := h2.at'
        have hl2' := hT.le
        unfold rdC readV
        repeat (first | exact endA | refine wkP ?_ | refine opB (fun b => ?_) | refine opA (fun a' c' hc1 hc2 => ?_) | (apply GJ.and; exact rfl; intro hg) | (apply GJ.or; exact rfl; intro hg))
        rw [← backC hpos]
        refine wrong3 (e := 5) (s := backP s3) (by decide) (by decide) hT2 h2.back Take.auto Take.auto Take.auto (fun h4 => ?_)
        repeat (first | exact endA | refine wkP ?_ | refine opB (fun b => ?_) | refine opA (fun a' c' hc1 hc2 => ?_) | (apply GJ.and; exact rfl; intro hg) | (apply GJ.or; exact rfl; intro hg))
        refine CallOk.freeze (c := .sl fa _ _ _ _ _) Take.auto (fun ro9 hl9 hc9 => ?_)
        refine radd_ok (d := { node0 with kind := 5, fields := fs }) (x := { nodeZ with fa := fa, fc := fc }) (hT2.up hl9) ((h4).up hl9) ⟨Rs.nil _ 1, Rs.nil _ 1, Rs.last hc9, Rs.nil _ 2⟩ ⟨by simp [node0], by simp [node0], by dsimp only; omega, by simp [node0]⟩ Take.auto Take.auto Take.auto (fun ro4 a4 hl4 h4 => ?_)
        have hk2 := hk ro4 a4 ((hl2.trans hl9).trans hl4) h4
        repeat (first | exact endA | refine wkP ?_ | refine opB (fun b => ?_) | refine opA (fun a' c' hc1 hc2 => ?_) | (apply GJ.and; exact rfl; intro hg) | (apply GJ.or; exact rfl; intro hg))
        exact Wk.outS Sup.auto (.refl _) hk2
      · rw [if_neg hb] at hk
        by_cases hc3 : s3.code = 0
        · have hn0 : ¬ fs.length = 0 := fun h => hb ⟨hc3, h⟩
          rw [decide_eq_true hc3]
          repeat (first | exact endA | refine wkP ?_ | refine opB (fun b => ?_) | refine opA (fun a' c' hc1 hc2 => ?_) | (apply GJ.and; exact rfl; intro hg) | (apply GJ.or; exact rfl; intro hg))
          refine CallOk.freeze (c := .sl fa _ _ _ _ _) Take.auto (fun ro9 hl9 hc9 => ?_)
          refine radd_ok (d := { node0 with kind := 5, fields := fs }) (x := { nodeZ with fa := fa, fc := fc }) (hT2.up hl9) ((h2).up hl9) ⟨Rs.nil _ 1, Rs.nil _ 1, Rs.last hc9, Rs.nil _ 2⟩ ⟨by simp [node0], by simp [node0], by dsimp only; omega, by simp [node0]⟩ Take.auto Take.auto Take.auto (fun ro4 a4 hl4 h4 => ?_)
          have hk2 := hk ro4 a4 ((hl2.trans hl9).trans hl4) h4
          repeat (first | exact endA | refine wkP ?_ | refine opB (fun b => ?_) | refine opA (fun a' c' hc1 hc2 => ?_) | (apply GJ.and; exact rfl; intro hg) | (apply GJ.or; exact rfl; intro hg))
          exact Wk.outS Sup.auto (.refl _) hk2
        · rw [decide_eq_false hc3]
          repeat (first | exact endA | refine wkP ?_ | refine opB (fun b => ?_) | refine opA (fun a' c' hc1 hc2 => ?_) | (apply GJ.and; exact rfl; intro hg) | (apply GJ.or; exact rfl; intro hg))
          refine CallOk.freeze (c := .sl fa _ _ _ _ _) Take.auto (fun ro9 hl9 hc9 => ?_)
          refine radd_ok (d := { node0 with kind := 5, fields := fs }) (x := { nodeZ with fa := fa, fc := fc }) (hT2.up hl9) ((h2).up hl9) ⟨Rs.nil _ 1, Rs.nil _ 1, Rs.last hc9, Rs.nil _ 2⟩ ⟨by simp [node0], by simp [node0], by dsimp only; omega, by simp [node0]⟩ Take.auto Take.auto Take.auto (fun ro4 a4 hl4 h4 => ?_)
          have hk2 := hk ro4 a4 ((hl2.trans hl9).trans hl4) h4
          repeat (first | exact endA | refine wkP ?_ | refine opB (fun b => ?_) | refine opA (fun a' c' hc1 hc2 => ?_) | (apply GJ.and; exact rfl; intro hg) | (apply GJ.or; exact rfl; intro hg))
          exact Wk.outS Sup.auto (.refl _) hk2
    | false =>
      rw [if_neg (by decide)] at i2
      by_cases h64 : fs.length = 64
      · rw [if_pos h64] at i2
        repeat (first | exact endA | refine wkP ?_ | refine opB (fun b => ?_) | refine opA (fun a' c' hc1 hc2 => ?_) | (apply GJ.and; exact rfl; intro hg) | (apply GJ.or; exact rfl; intro hg))
        refine wrong3 (e := 2) (by decide) (by decide) hT2 h2 Take.auto Take.auto Take.auto (fun h4 => ?_)
        have hcode : (wrongP 2 s3).code ≠ 0 := by
          unfold wrongP
          split
          · exact (by decide : (2 : Nat) ≠ 0)
          · assumption
        generalize wrongP 2 s3 = s4 at *
        repeat (first | exact endA | refine wkG ?_ | refine opB (fun b => ?_) | refine opA (fun a' c' hc1 hc2 => ?_) | (show GJ _ _ _ _ _ _ _; first | (apply GJ.and; exact rfl; intro hg) | (apply GJ.or; exact rfl; intro hg) | refine GJ.t omAuto ?_ | refine GJ.f omAuto ?_ | refine GJ.ft omAuto ?_ | refine GJ.ff omAuto ?_))
        refine Bs.mk ⟨[.blk bN 41 [.int .i64 5, .int .i64 0, .bool false, .bool false, .bool false, .int .u64 ((0 : Nat) : Int), .int .u64 ((0 : Nat) : Int), str [], str [], .int .u64 ((0 : Nat) : Int), .int .u64 ((0 : Nat) : Int), .slice none 0 0, .slice none 0 0, .slice fa fs.length fc, str [], .int .u64 ((0 : Nat) : Int), .slice none 0 0, .int .i64 0]], Sup.auto, ?_⟩
        repeat (first | exact endA | refine wkG ?_ | refine opB (fun b => ?_) | refine opA (fun a' c' hc1 hc2 => ?_) | (show GJ _ _ _ _ _ _ _; first | (apply GJ.and; exact rfl; intro hg) | (apply GJ.or; exact rfl; intro hg) | refine GJ.t omAuto ?_ | refine GJ.f omAuto ?_ | refine GJ.ft omAuto ?_ | refine GJ.ff omAuto ?_))
        refine rfield_ok hF hd hM2 hT2 h4 Take.auto Take.auto Take.auto (fun ro3 a3 hl3 h5 => ?_)
        have hstf : (s4).code ≠ 0 → (fieldP (listE l) F s4).2.code ≠ 0 := fun hh => by
          haveI := sticky_clo l
          exact (InP.field (I := fun s => s.code ≠ 0) (E := listE l) (fun s h => ⟨hst s h.get⟩) ⟨hh⟩).get
        generalize fieldP (listE l) F s4 = x at *
        obtain ⟨xf, s5⟩ := x
        dsimp only at h5 i2 hstf ⊢
        refine wkS ?_
        refine opB (fun b2 => ?_)
        refine wkS ?_
        repeat (first | exact endA | refine wkG ?_ | refine opB (fun b => ?_) | refine opA (fun a' c' hc1 hc2 => ?_) | (show GJ _ _ _ _ _ _ _; first | (apply GJ.and; exact rfl; intro hg) | (apply GJ.or; exact rfl; intro hg) | refine GJ.t omAuto ?_ | refine GJ.f omAuto ?_ | refine GJ.ft omAuto ?_ | refine GJ.ff omAuto ?_))
        have e2 : fieldsV fs ++ flat [Value.agg (fieldV xf).toArray] = fieldsV (fs ++ [xf]) := by simp [fieldsV, flat, fieldV, Value.cells]
        have e1 : fs.length + 1 = (fs ++ [xf]).length := by simp
        rw [e2]
        rw [e1] at hc1 ⊢
        repeat (first | exact endA | refine wkP ?_ | refine opB (fun b => ?_) | refine opA (fun a' c' hc1 hc2 => ?_) | (apply GJ.and; exact rfl; intro hg) | (apply GJ.or; exact rfl; intro hg))
        refine Wk.id ⟨(fs ++ [xf], s5, a3, a', c'), ?_, ?_, Sub.auto, Sup.auto⟩
        all_goals try dsimp only
        · refine ⟨h5, by rw [← e1, show 70 - (fs.length + 1) = 69 - fs.length by omega]; exact i2, ?_, hc1, hc2⟩
          rw [← e1]
          exact .inr ⟨by omega, hstf hcode⟩
        · rw [← e1]; omega
      · rw [if_neg h64] at i2
        have hle : fs.length ≤ 63 := by
          rcases i3 with h | ⟨h, hh⟩
          · omega
          · exact absurd hc hh
        repeat (first | exact endA | refine wkG ?_ | refine opB (fun b => ?_) | refine opA (fun a' c' hc1 hc2 => ?_) | (show GJ _ _ _ _ _ _ _; first | (apply GJ.and; exact rfl; intro hg) | (apply GJ.or; exact rfl; intro hg) | refine GJ.t omAuto ?_ | refine GJ.f omAuto ?_ | refine GJ.ft omAuto ?_ | refine GJ.ff omAuto ?_))
        refine SeqOk.pass ?_
        repeat (first | exact endA | refine wkG ?_ | refine opB (fun b => ?_) | refine opA (fun a' c' hc1 hc2 => ?_) | (show GJ _ _ _ _ _ _ _; first | (apply GJ.and; exact rfl; intro hg) | (apply GJ.or; exact rfl; intro hg) | refine GJ.t omAuto ?_ | refine GJ.f omAuto ?_ | refine GJ.ft omAuto ?_ | refine GJ.ff omAuto ?_))
        refine Bs.mk ⟨[.blk bN 41 [.int .i64 5, .int .i64 0, .bool false, .bool false, .bool false, .int .u64 ((0 : Nat) : Int), .int .u64 ((0 : Nat) : Int), str [], str [], .int .u64 ((0 : Nat) : Int), .int .u64 ((0 : Nat) : Int), .slice none 0 0, .slice none 0 0, .slice fa fs.length fc, str [], .int .u64 ((0 : Nat) : Int), .slice none 0 0, .int .i64 0]], Sup.auto, ?_⟩
        repeat (first | exact endA | refine wkG ?_ | refine opB (fun b => ?_) | refine opA (fun a' c' hc1 hc2 => ?_) | (show GJ _ _ _ _ _ _ _; first | (apply GJ.and; exact rfl; intro hg) | (apply GJ.or; exact rfl; intro hg) | refine GJ.t omAuto ?_ | refine GJ.f omAuto ?_ | refine GJ.ft omAuto ?_ | refine GJ.ff omAuto ?_))
        refine rfield_ok hF hd hM2 hT2 h2 Take.auto Take.auto Take.auto (fun ro3 a3 hl3 h5 => ?_)
        have hstf : (s3).code ≠ 0 → (fieldP (listE l) F s3).2.code ≠ 0 := fun hh => by
          haveI := sticky_clo l
          exact (InP.field (I := fun s => s.code ≠ 0) (E := listE l) (fun s h => ⟨hst s h.get⟩) ⟨hh⟩).get
        generalize fieldP (listE l) F s3 = x at *
        obtain ⟨xf, s5⟩ := x
        dsimp only at h5 i2 hstf ⊢
        refine wkS ?_
        refine opB (fun b2 => ?_)
        refine wkS ?_
        repeat (first | exact endA | refine wkG ?_ | refine opB (fun b => ?_) | refine opA (fun a' c' hc1 hc2 => ?_) | (show GJ _ _ _ _ _ _ _; first | (apply GJ.and; exact rfl; intro hg) | (apply GJ.or; exact rfl; intro hg) | refine GJ.t omAuto ?_ | refine GJ.f omAuto ?_ | refine GJ.ft omAuto ?_ | refine GJ.ff omAuto ?_))
        have e2 : fieldsV fs ++ flat [Value.agg (fieldV xf).toArray] = fieldsV (fs ++ [xf]) := by simp [fieldsV, flat, fieldV, Value.cells]
        have e1 : fs.length + 1 = (fs ++ [xf]).length := by simp
        rw [e2]
        rw [e1] at hc1 ⊢
        repeat (first | exact endA | refine wkP ?_ | refine opB (fun b => ?_) | refine opA (fun a' c' hc1 hc2 => ?_) | (apply GJ.and; exact rfl; intro hg) | (apply GJ.or; exact rfl; intro hg))
        refine Wk.id ⟨(fs ++ [xf], s5, a3, a', c'), ?_, ?_, Sub.auto, Sup.auto⟩
        all_goals try dsimp only
        · refine ⟨h5, by rw [← e1, show 70 - (fs.length + 1) = 69 - fs.length by omega]; exact i2, ?_, hc1, hc2⟩
          rw [← e1]
          exact .inl (by omega)
        · rw [← e1]; omega
  · rw [if_pos hc] at i2
    subst i2
    dsimp only at hk
    rw [if_neg (fun h => hc h.1)] at hk
    rw [decide_eq_false hc]
    repeat (first | exact endA | refine wkP ?_ | refine opB (fun b => ?_) | refine opA (fun a' c' hc1 hc2 => ?_) | (apply GJ.and; exact rfl; intro hg) | (apply GJ.or; exact rfl; intro hg))
    refine rok_ok i1 Take.auto ?_
    rw [decide_eq_false hc]
    repeat (first | exact endA | refine wkP ?_ | refine opB (fun b => ?_) | refine opA (fun a' c' hc1 hc2 => ?_) | (apply GJ.and; exact rfl; intro hg) | (apply GJ.or; exact rfl; intro hg))
    refine CallOk.freeze (c := .sl fa _ _ _ _ _) Take.auto (fun ro9 hl9 hc9 => ?_)
    refine radd_ok (d := { node0 with kind := 5, fields := fs }) (x := { nodeZ with fa := fa, fc := fc }) (hT2.up hl9) ((i1).up hl9) ⟨Rs.nil _ 1, Rs.nil _ 1, Rs.last hc9, Rs.nil _ 2⟩ ⟨by simp [node0], by simp [node0], by dsimp only; omega, by simp [node0]⟩ Take.auto Take.auto Take.auto (fun ro4 a4 hl4 h4 => ?_)
    have hk2 := hk ro4 a4 ((hl2.trans hl9).trans hl4) h4
    repeat (first | exact endA | refine wkP ?_ | refine opB (fun b => ?_) | refine opA (fun a' c' hc1 hc2 => ?_) | (apply GJ.and; exact rfl; intro hg) | (apply GJ.or; exact rfl; intro hg))
    exact Wk.outS Sup.auto (.refl _) hk2
end
end Go.Proofs.YtefipginoakecaaGreatDoor
end
