/- Sets of bytes, byte by byte. No program in sight. -/
import Derived.Test.YtkpdnpcmeadggaaC9
namespace Go.Proofs.Ytkpdnpcmeadggaa
open Go Go.E
set_option linter.unusedVariables false
theorem SetD.has_and (s t : SetD) (c : Nat) : (s.and t).has c = (s.has c && t.has c) := by
  unfold SetD.has; rw [SetD.w_and, Nat.testBit_and]
theorem SetD.has_or (s t : SetD) (c : Nat) : (s.or t).has c = (s.has c || t.has c) := by
  unfold SetD.has; rw [SetD.w_or, Nat.testBit_or]
theorem SetD.has_not {s : SetD} (hs : SetIn s) (c : Nat) : s.not.has c = !s.has c := by
  unfold SetD.has
  rw [SetD.w_not, show (18446744073709551615 : Nat) - s.w (c / 64) = 2 ^ 64 - (s.w (c / 64) + 1) by omega, Nat.testBit_two_pow_sub_succ (hs _)]
  have : c % 64 < 64 := by omega
  simp [this]
theorem SetIn.and {s t : SetD} (hs : SetIn s) : SetIn (s.and t) := fun k => by
  rw [SetD.w_and]; exact Nat.lt_of_le_of_lt Nat.and_le_left (hs k)
theorem SetIn.or {s t : SetD} (hs : SetIn s) (ht : SetIn t) : SetIn (s.or t) := fun k => by
  rw [SetD.w_or]; exact Nat.or_lt_two_pow (n := 64) (hs k) (ht k)
theorem SetIn.not (s : SetD) : SetIn s.not := fun k => by rw [SetD.w_not]; omega
theorem SetIn.all : SetIn allD := fun k => by unfold SetD.w allD; dsimp only; split; decide; split; decide; split <;> decide
theorem SetD.has_all (c : Nat) : allD.has c = true := by
  have : allD = SetD.not ⟨0, 0, 0, 0⟩ := rfl
  rw [this, SetD.has_not SetIn.zero, SetD.has_zero]; rfl
theorem SetD.ext {s t : SetD} (hs : SetIn s) (ht : SetIn t) (h : ∀ c, c < 256 → s.has c = t.has c) : s = t := by
  refine SetD.ext4 fun k hk => ?_
  apply Nat.eq_of_testBit_eq
  intro i
  rcases Nat.lt_or_ge i 64 with hi | hi
  · have := h (64 * k + i) (by omega)
    unfold SetD.has at this
    rwa [show (64 * k + i) / 64 = k by omega, show (64 * k + i) % 64 = i by omega] at this
  · have e : ∀ w : Nat, w < 18446744073709551616 → w.testBit i = false := fun w hw => Nat.testBit_lt_two_pow (Nat.lt_of_lt_of_le hw (show 2 ^ 64 ≤ 2 ^ i from Nat.pow_le_pow_right (by decide) hi))
    rw [e _ (hs k), e _ (ht k)]
theorem pc_count : ∀ (n x : Nat), pc n x = (List.range n).countP x.testBit
  | 0, x => rfl
  | n + 1, x => by
    rw [List.range_succ_eq_map, List.countP_cons, List.countP_map, pc, pc_count n (x / 2)]
    have e : (x.testBit ∘ Nat.succ) = (x / 2).testBit := by
      funext i; exact Nat.testBit_succ x i
    rw [e, Nat.testBit_zero]
    by_cases h : x % 2 = 1
    · simp [h]; omega
    · have h0 : x % 2 = 0 := by omega
      simp [h0]
theorem range256 : List.range 256 = List.range 64 ++ ((List.range 64).map (64 + ·) ++ ((List.range 64).map (128 + ·) ++ (List.range 64).map (192 + ·))) := by decide +kernel
theorem SetD.len_count (s : SetD) : s.len = (List.range 256).countP s.has := by
  have k : ∀ (b : Nat) (w : Nat), (∀ i, i < 64 → s.has (b + i) = w.testBit i) → ((List.range 64).map (b + ·)).countP s.has = pc 64 w := fun b w h => by
    rw [List.countP_map, pc_count]
    exact List.countP_congr fun i hi => by
      have := h i (List.mem_range.1 hi)
      simp only [Function.comp_apply]
      rw [this]
  rw [range256, List.countP_append, List.countP_append, List.countP_append]
  have k0 := k 0 s.a (fun i hi => by unfold SetD.has; rw [show (0 + i) / 64 = 0 by omega, show (0 + i) % 64 = i by omega]; rfl)
  have k1 := k 64 s.b (fun i hi => by unfold SetD.has; rw [show (64 + i) / 64 = 1 by omega, show (64 + i) % 64 = i by omega]; rfl)
  have k2 := k 128 s.c (fun i hi => by unfold SetD.has; rw [show (128 + i) / 64 = 2 by omega, show (128 + i) % 64 = i by omega]; rfl)
  have k3 := k 192 s.d (fun i hi => by unfold SetD.has; rw [show (192 + i) / 64 = 3 by omega, show (192 + i) % 64 = i by omega]; rfl)
  have e0 : (List.range 64).map (0 + ·) = List.range 64 := by simp
  rw [e0] at k0
  rw [k0, k1, k2, k3, SetD.len]
  omega
theorem countP_split {α : Type} (a b : α → Bool) (l : List α) : l.countP (fun x => a x && b x) + l.countP (fun x => a x && !b x) = l.countP a := by
  induction l with
  | nil => rfl
  | cons x l ih =>
    rw [List.countP_cons, List.countP_cons, List.countP_cons, ← ih]
    cases a x <;> cases b x <;> simp <;> omega
theorem len_cut {s p : SetD} (hs : SetIn s) : (p.and s).len + (p.and s.not).len = p.len := by
  rw [SetD.len_count, SetD.len_count, SetD.len_count, ← countP_split p.has s.has]
  congr 1
  · exact List.countP_congr fun c _ => by rw [SetD.has_and]
  · exact List.countP_congr fun c _ => by rw [SetD.has_and, SetD.has_not hs]
theorem len_zero {s : SetD} (hs : SetIn s) (h : s.len = 0) : s = ⟨0, 0, 0, 0⟩ := by
  refine SetD.ext hs SetIn.zero fun c hc => ?_
  rw [SetD.has_zero]
  rw [SetD.len_count, List.countP_eq_zero] at h
  have := h c (List.mem_range.2 hc)
  simpa using this
/-- The lengths of all together. -/
def sumL (l : List SetD) : Nat := (l.map SetD.len).sum
theorem sumL_append (a b : List SetD) : sumL (a ++ b) = sumL a + sumL b := by simp [sumL]
theorem cutD_sum {s p : SetD} (hs : SetIn s) (hp : SetIn p) : sumL (cutD s p) = p.len := by
  have h := len_cut (p := p) hs
  unfold cutD
  have z : SetD.len ⟨0, 0, 0, 0⟩ = 0 := by decide +kernel
  by_cases h1 : p.and s = ⟨0, 0, 0, 0⟩ <;> by_cases h2 : p.and s.not = ⟨0, 0, 0, 0⟩ <;> simp [h1, h2, sumL] <;> (try rw [h1, z] at h) <;> (try rw [h2, z] at h) <;> omega
theorem cutD_in {s p : SetD} (hp : SetIn p) : ∀ q ∈ cutD s p, SetIn q ∧ q ≠ ⟨0, 0, 0, 0⟩ := fun q hq => by
  unfold cutD at hq
  obtain ⟨h1, h2⟩ := List.mem_filter.1 hq
  refine ⟨?_, by simpa using h2⟩
  simp at h1
  rcases h1 with rfl | rfl <;> exact hp.and
theorem sumL_ge {l : List SetD} (h : ∀ q ∈ l, SetIn q ∧ q ≠ ⟨0, 0, 0, 0⟩) : l.length ≤ sumL l := by
  induction l with
  | nil => simp
  | cons q l ih =>
    have := ih fun x hx => h x (by simp [hx])
    have h1 : q.len ≠ 0 := fun e => (h q (by simp)).2 (len_zero (h q (by simp)).1 e)
    simp [sumL] at this ⊢
    omega
end Go.Proofs.Ytkpdnpcmeadggaa
