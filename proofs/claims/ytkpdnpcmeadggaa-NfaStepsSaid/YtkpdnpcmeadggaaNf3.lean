/- Few parts, none too often; what Make makes; the law NfaGreat; plain. No program in sight. -/
import Derived.Test.YtkpdnpcmeadggaaNf2
import Derived.Test.YtkpdnpcmeadggaaRxA
namespace Go.Proofs.Ytkpdnpcmeadggaa
open Go Go.E
set_option linter.unusedVariables false
set_option maxRecDepth 10000
mutual
def fewX (mn mx : Int) : RgD → Int → Bool × Int
  | .mk k s l a b => fun left => if (left - 1 < 0 ∨ 30 < l.length) ∨ (k = 5 ∧ (mn < a ∨ mx < b)) then (false, left - 1) else fewY mn mx l (left - 1)
def fewY (mn mx : Int) : List RgD → Int → Bool × Int
  | [] => fun left => (true, left)
  | x :: r => fun left => if (fewX mn mx x left).1 then fewY mn mx r (fewX mn mx x left).2 else (false, (fewX mn mx x left).2)
end

mutual
theorem fewX_left {mn mx : Int} : ∀ (n : RgD) (M : Int), (fewX mn mx n M).1 = true → 0 ≤ (fewX mn mx n M).2 ∧ (fewX mn mx n M).2 ≤ M - 1
  | .mk k s l a b, M, h => by
    rw [fewX] at h ⊢
    dsimp only at h ⊢
    split at h
    · cases h
    · rename_i h1
      rw [if_neg h1]
      have := fewY_left l (M - 1) (by omega) h
      omega
theorem fewY_left {mn mx : Int} : ∀ (l : List RgD) (M : Int), 0 ≤ M → (fewY mn mx l M).1 = true → 0 ≤ (fewY mn mx l M).2 ∧ (fewY mn mx l M).2 ≤ M
  | [], M, h0, h => by rw [fewY]; exact ⟨h0, Int.le_refl _⟩
  | x :: r, M, h0, h => by
    rw [fewY] at h ⊢
    dsimp only at h ⊢
    split at h
    · rename_i h1
      rw [if_pos h1]
      have h2 := fewX_left x M h1
      have := fewY_left r (fewX mn mx x M).2 h2.1 h
      omega
    · cases h
end

mutual
theorem fewX_size {mn mx : Int} : ∀ (n : RgD) (L : Int), (fewX mn mx n L).1 = true → (sizeD n : Int) = L - (fewX mn mx n L).2 ∧ 0 ≤ (fewX mn mx n L).2
  | .mk k s l a b, L, h => by
    rw [fewX] at h ⊢
    dsimp only at h ⊢
    split
    · rename_i h1; rw [if_pos h1] at h; cases h
    · rename_i h1
      rw [if_neg h1] at h
      have := fewY_size l (L - 1) h
      rw [sizeD]; omega
theorem fewY_size {mn mx : Int} : ∀ (l : List RgD) (L : Int), (fewY mn mx l L).1 = true → (sizeK l : Int) = L - (fewY mn mx l L).2 ∧ (0 ≤ L → 0 ≤ (fewY mn mx l L).2)
  | [], L, h => by rw [fewY, sizeK]; exact ⟨by simp, fun h => h⟩
  | x :: r, L, h => by
    rw [fewY] at h ⊢
    dsimp only at h ⊢
    split
    · rename_i h1
      rw [if_pos h1] at h
      have h2 := fewX_size x L h1
      have h3 := fewY_size r (fewX mn mx x L).2 h
      rw [sizeK]; omega
    · rename_i h1; rw [if_neg h1] at h; cases h
end

def st0 : StD := ⟨[[]], false⟩
theorem st0_ok : StOk st0 := ⟨by decide, by decide, (fun row hr x hx => by simp [st0] at hr; subst hr; cases hx), (fun h => by cases h)⟩
def nilN : NfaD := ⟨[], 0⟩
/-- What Make answers: the error first. -/
def makeN (n : RgD) : Nat × NfaD :=
  if (checkD n 512).1 ≠ 0 then ((checkD n 512).1, nilN)
  else if (nodeN n 0 st0).2.full then (80, nilN)
  else (0, ⟨(nodeN n 0 st0).2.rows, (nodeN n 0 st0).1⟩)
structure NfaOk (a : NfaD) : Prop where
  to : ToIn a.rows
  le : a.rows.length ≤ 4096
  last : a.rows ≠ [] → 0 ≤ a.last ∧ a.last < a.rows.length
theorem nil_ok : NfaOk nilN := ⟨(fun row hr => by cases hr), by decide, fun h => absurd rfl h⟩
theorem make_ok {n : RgD} (hw : wrongD n = 0) : NfaOk (makeN n).2 := by
  have m := (made_node n hw 0 st0 st0_ok (by decide)).1
  unfold makeN
  split
  · exact nil_ok
  split
  · exact nil_ok
  · exact ⟨m.ok.to, m.ok.le, fun _ => ⟨Int.natCast_nonneg _, by have := m.lt; dsimp only; omega⟩⟩
theorem make_rows {n : RgD} (hw : wrongD n = 0) (h : (makeN n).1 = 0) : (makeN n).2.rows.length = 1 + cntN n := by
  have m := (made_node n hw 0 st0 st0_ok (by decide)).1
  unfold makeN at h ⊢
  split
  · rename_i h1; rw [if_pos h1] at h; exact absurd h h1
  · rename_i h1
    rw [if_neg h1] at h
    split
    · rename_i h2; rw [if_pos h2] at h; cases h
    · rename_i h2
      have := m.len (by simpa using h2)
      rw [this]; rfl
/-- Many states of one. -/
theorem great_law {n : RgD} (hw : wrongD n = 0) (hs : sizeD n ≤ 500) (h1 : (makeN n).1 = 0) {t : Nat} (ht : t ≤ 256) :
    ((makeN (repD n t t)).1 = 80 → (makeN (repD n t t)).2 = nilN ∧ 4096 < (t + 1) * ((makeN n).2.rows.length + 1)) ∧
    ((makeN (repD n t t)).1 ≠ 80 → (makeN (repD n t t)).1 = 0 ∧ (makeN (repD n t t)).2.rows.length ≤ (t + 1) * ((makeN n).2.rows.length + 1)) := by
  have hL := make_rows hw h1
  have hw2 : wrongD (repD n t t) = 0 := wrong_rep hw (by omega)
  have hc : (checkD (repD n t t) 512).1 = 0 := by
    rw [check_size (repD n t t) 512 hw2 (by rw [repD, sizeD, sizeK, sizeK]; omega)]
  have m := (made_node (repD n t t) hw2 0 st0 st0_ok (by decide)).1
  have hcn : cntN (repD n t t) = t * cntN n + 1 := by
    rw [repD, cntN, if_neg (by decide), if_neg (by decide), if_neg (by decide), if_pos rfl, kidC, if_neg (by omega)]
    simp
  have hmul : (t + 1) * (1 + cntN n + 1) = t * cntN n + 2 * t + cntN n + 2 := by
    rw [Nat.add_mul, Nat.add_assoc 1, Nat.add_comm 1, Nat.add_assoc, Nat.mul_add]; omega
  rw [hL, hmul]
  have hr : makeN (repD n t t) = if (nodeN (repD n t t) 0 st0).2.full then (80, nilN) else (0, ⟨(nodeN (repD n t t) 0 st0).2.rows, (nodeN (repD n t t) 0 st0).1⟩) := by
    unfold makeN; rw [if_neg (by rw [hc]; decide)]
  have h00 : st0.rows.length = 1 := rfl
  rw [hr]
  cases hf : (nodeN (repD n t t) 0 st0).2.full with
  | true =>
    rw [if_pos rfl]
    refine ⟨fun _ => ⟨rfl, ?_⟩, fun h => absurd rfl h⟩
    apply Classical.byContradiction
    intro hn
    have := m.room rfl (by rw [h00, hcn]; omega)
    rw [hf] at this; cases this
  | false =>
    rw [if_neg (by decide)]
    refine ⟨(fun h => by cases h), fun _ => ⟨rfl, ?_⟩⟩
    have := m.len hf
    rw [h00, hcn] at this
    show (nodeN (repD n t t) 0 st0).2.rows.length ≤ _
    omega
end Go.Proofs.Ytkpdnpcmeadggaa
