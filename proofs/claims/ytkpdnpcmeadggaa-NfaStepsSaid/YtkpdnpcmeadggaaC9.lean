/- Contracts of class: sorted, Split. -/
import Derived.Test.YtkpdnpcmeadggaaC8
import Derived.Test.YtkpdnpcmeadggaaEn3
namespace Go.Proofs.Ytkpdnpcmeadggaa
open Go Go.E
set_option linter.unusedVariables false
set_option maxRecDepth 10000
def setsV (l : List SetD) : List Value := l.flatMap setV
theorem setsV_len (l : List SetD) : (setsV l).length = l.length * 4 := by
  induction l with
  | nil => rfl
  | cons s l ih => simp [setsV, setV] at ih ⊢; omega
theorem setsV_drop : ∀ (l : List SetD) (i : Nat) (s : SetD), l[i]? = some s → ((setsV l).drop (i * 4)).take 4 = setV s
  | [], i, s, h => by simp at h
  | x :: l, 0, s, h => by simp at h; subst h; rfl
  | x :: l, i + 1, s, h => by
    rw [show (i + 1) * 4 = 4 + i * 4 by omega]
    show List.take 4 (List.drop (4 + i * 4) (setV x ++ setsV l)) = _
    rw [← List.drop_drop, List.drop_left' (by rfl)]
    exact setsV_drop l i s (by simpa using h)
theorem setsV_snoc (l : List SetD) (s : SetD) : setsV (l ++ [s]) = setsV l ++ setV s := by simp [setsV]
theorem flat_set (s : SetD) : flat [.agg (setV s).toArray] = setV s := rfl
theorem setsV_one (l : List SetD) : ∀ u ∈ setsV l, u.oneCell' = true := fun u hu => by
  obtain ⟨s, _, hs⟩ := List.mem_flatMap.1 hu
  simp [setV] at hs
  rcases hs with rfl | rfl | rfl | rfl <;> rfl
/-- Is a byte the least one? -/
def SetD.firstIs (s : SetD) (c : Nat) : Bool := (List.range 256).find? s.has == some c
def sortD (l : List SetD) : List SetD := (List.range 256).flatMap fun c => l.filter fun s => s.firstIs c
theorem firstIs_none {c : Nat} : SetD.firstIs ⟨0, 0, 0, 0⟩ c = false := by
  have : (List.range 256).find? (SetD.has ⟨0, 0, 0, 0⟩) = none := by
    rw [List.find?_eq_none]; intro x _; rw [SetD.has_zero]; simp
  unfold SetD.firstIs; rw [this]; rfl
theorem firstIs_some {s : SetD} {c d : Nat} (hc : c < 256) (h1 : s.has c = true) (h2 : ∀ j, j < c → s.has j = false) : s.firstIs d = decide (c = d) := by
  have : (List.range 256).find? s.has = some c := by
    rw [List.find?_range_eq_some]
    exact ⟨h1, List.mem_range.2 hc, fun j hj => by rw [h2 j hj]; rfl⟩
  unfold SetD.firstIs; rw [this]
  by_cases h : c = d <;> simp [h]
section
variable {ro : Ro} {own r : Chs} {K : Value → Ro → Chs → Prop} {g : Chunk → Chs}
/-- What both parts of a set are, that aren't empty. -/
def cutD (s p : SetD) : List SetD := [p.and s, p.and s.not].filter fun q => q != ⟨0, 0, 0, 0⟩
def splitD (l : List SetD) : List SetD := sortD (l.foldl (fun o s => o.flatMap (cutD s)) [allD])
theorem cutD_len (s p : SetD) : (cutD s p).length ≤ 2 := by
  unfold cutD
  exact Nat.le_trans (List.length_filter_le _ _) (by simp)
end
end Go.Proofs.Ytkpdnpcmeadggaa
