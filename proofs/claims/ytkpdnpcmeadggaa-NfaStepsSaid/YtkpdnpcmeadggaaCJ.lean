/- A set's text tells the set. No program in sight. -/
import Derived.Test.YtkpdnpcmeadggaaCC
namespace Go.Proofs.Ytkpdnpcmeadggaa
open Go Go.E
set_option linter.unusedVariables false
def unhex (u : UInt8) : Nat := if u.toNat < 58 then u.toNat - 48 else u.toNat - 87
def decName : List UInt8 → Option (Nat × List UInt8)
  | [] => none
  | x :: r => if x = 93 then none else if x = 92 then (match r with
    | _ :: y :: z :: r2 => some (16 * unhex y + unhex z, r2)
    | _ => none) else some (x.toNat, r)
theorem hexB_un : ∀ k : Nat, k < 16 → unhex (hexB.getD k 0) = k := by decide +kernel
theorem signs_has : ∀ c : Nat, c < 256 → plainC c = true → UInt8.ofNat c ≠ 93 ∧ UInt8.ofNat c ≠ 92 ∧ UInt8.ofNat c ≠ 45 ∧ UInt8.ofNat c ≠ 91 ∧ UInt8.ofNat c ≠ 46 ∧ (UInt8.ofNat c).toNat = c := by decide +kernel
theorem decName_name {c : Nat} (hc : c < 256) (r : List UInt8) : decName (nameD c ++ r) = some (c, r) := by
  unfold nameD
  by_cases h : plainC c = true
  · obtain ⟨h1, h2, _, _, _, h3⟩ := signs_has c hc h
    rw [if_pos h]
    simp only [List.cons_append, List.nil_append, decName]
    rw [if_neg h1, if_neg h2, h3]
  · rw [if_neg h]
    simp only [List.cons_append, List.nil_append, decName]
    rw [if_neg (by decide), if_pos trivial, hexB_un _ (by omega), hexB_un _ (by omega)]
    congr 2
    omega
def decF : Nat → List UInt8 → Nat → Bool
  | 0, _, _ => false
  | k + 1, l, d => match decName l with
    | none => false
    | some (c, 45 :: r) => (match decName r with
      | none => false
      | some (e, r2) => (decide (c ≤ d) && decide (d ≤ e)) || decF k r2 d)
    | some (c, r) => decide (d = c) || decF k r d
theorem endF_has (s : SetD) : ∀ (n t j : Nat), t < j → j ≤ endF s n t → s.has j = true
  | 0, t, j, h1, h2 => by rw [endF] at h2; omega
  | n + 1, t, j, h1, h2 => by
    rw [endF] at h2
    split at h2
    · rename_i h
      by_cases e : j = t + 1
      · rw [e]; exact h.2
      · exact endF_has s n (t + 1) j (by omega) h2
    · omega
theorem nameD_head {c : Nat} (hc : c < 256) : ∃ x r, nameD c = x :: r ∧ x ≠ 45 ∧ x ≠ 91 ∧ x ≠ 93 := by
  unfold nameD
  by_cases h : plainC c = true
  · rw [if_pos h]
    have := signs_has c hc h
    exact ⟨_, _, rfl, this.2.2.1, this.2.2.2.1, this.1⟩
  · rw [if_neg h]
    exact ⟨_, _, rfl, by decide, by decide, by decide⟩
theorem runsF_head (s : SetD) : ∀ (n c : Nat) (r : List UInt8), runsF s n c ++ [93] ≠ 45 :: r
  | 0, c, r => by simp [runsF]
  | n + 1, c, r => by
    rw [runsF]
    split
    · simp
    · split
      · obtain ⟨x, y, h, hx, _⟩ := nameD_head (c := c) (by omega)
        rw [h]
        intro e
        simp at e
        exact hx e.1
      · exact runsF_head s n (c + 1) r
theorem decF_one {k c d : Nat} {r : List UInt8} (hc : c < 256) (h : ∀ r2, r ≠ 45 :: r2) : decF (k + 1) (nameD c ++ r) d = (decide (d = c) || decF k r d) := by
  rw [decF, decName_name hc]
  match r, h with
  | [], _ => rfl
  | x :: r, h =>
    by_cases hx : x = 45
    · exact absurd (by rw [hx]) (h r)
    · split
      · rename_i heq; cases heq
      · rename_i heq; simp at heq; exact absurd heq.2.1 hx
      · rename_i heq; simp at heq; obtain ⟨rfl, rfl⟩ := heq; rfl
theorem decF_two {k c e d : Nat} {r : List UInt8} (hc : c < 256) (he : e < 256) : decF (k + 1) (nameD c ++ (45 :: (nameD e ++ r))) d = ((decide (c ≤ d) && decide (d ≤ e)) || decF k r d) := by
  rw [decF, decName_name hc]
  simp only
  rw [decName_name he]
theorem decF_runs (s : SetD) {d : Nat} (hd : d < 256) : ∀ (n c k : Nat), 256 ≤ c + n → n ≤ k → decF (k + 1) (runsF s n c ++ [93]) d = (decide (c ≤ d) && s.has d)
  | 0, c, k, h1, h2 => by
    have : ¬ c ≤ d := by omega
    simp [runsF, decF, decName, this]
  | n + 1, c, k, h1, h2 => by
    rw [runsF]
    by_cases hc : 256 ≤ c
    · have : ¬ c ≤ d := by omega
      rw [if_pos hc]
      simp [decF, decName, this]
    · rw [if_neg hc]
      by_cases hh : s.has c = true
      · rw [if_pos hh]
        obtain ⟨he1, he2⟩ := endF_ge s 256 c (by omega)
        have hin : ∀ j, c ≤ j → j ≤ endF s 256 c → s.has j = true := fun j h1 h2 => by
          by_cases e : j = c
          · rw [e]; exact hh
          · exact endF_has s 256 c j (by omega) h2
        generalize endF s 256 c = e at he1 he2 hin
        obtain ⟨k, rfl⟩ : ∃ k', k = k' + 1 := ⟨k - 1, by omega⟩
        have ih := decF_runs s hd n (e + 1) k (by omega) (by omega)
        by_cases hce : c < e
        · rw [if_pos hce, List.append_assoc, List.append_assoc, List.cons_append, decF_two (by omega) (by omega), ih]
          by_cases h3 : c ≤ d
          · by_cases h4 : d ≤ e
            · rw [hin d h3 h4]; simp [h3, h4]
            · have : e + 1 ≤ d := by omega
              simp [h3, h4, this]
          · have : ¬ e + 1 ≤ d := by omega
            simp [h3, this]
        · obtain rfl : c = e := by omega
          rw [if_neg hce, List.append_nil, List.append_assoc, decF_one (by omega) (fun r2 => runsF_head s n (c + 1) r2), ih]
          by_cases h3 : d = c
          · subst h3; simp [hh]
          · by_cases h4 : c ≤ d
            · have : c + 1 ≤ d := by omega
              simp [h3, h4, this]
            · have : ¬ c + 1 ≤ d := by omega
              simp [h3, h4, this]
      · rw [if_neg hh]
        have ih := decF_runs s hd n (c + 1) k (by omega) (by omega)
        rw [ih]
        by_cases h3 : d = c
        · subst h3
          rw [Bool.not_eq_true] at hh
          simp [hh]
        · by_cases h4 : c ≤ d
          · have : c + 1 ≤ d := by omega
            simp [h4, this]
          · have : ¬ c + 1 ≤ d := by omega
            simp [h4, this]
theorem runsF_len (s : SetD) : ∀ (n c : Nat), (runsF s n c).length ≤ 9 * n
  | 0, c => by simp [runsF]
  | n + 1, c => by
    rw [runsF]
    split
    · simp
    · split
      · have h1 := runsF_len s n (endF s 256 c + 1)
        have h2 := (nameD_len c).2
        have h3 := (nameD_len (endF s 256 c)).2
        rw [List.length_append, List.length_append]
        split
        · rw [List.length_cons]; omega
        · rw [List.length_nil]; omega
      · have := runsF_len s n (c + 1); omega
theorem one_has {s : SetD} (h : s.len = 1) : ∃ c, c < 256 ∧ (List.range 256).find? s.has = some c ∧ ∀ d, d < 256 → (s.has d = true ↔ d = c) := by
  rw [SetD.len_count, List.countP_eq_length_filter] at h
  obtain ⟨x, hx⟩ := List.length_eq_one_iff.1 h
  have hm : ∀ d, d < 256 → (s.has d = true ↔ d = x) := fun d hd => by
    have : d ∈ (List.range 256).filter s.has ↔ _ := List.mem_filter
    rw [hx] at this
    simp only [List.mem_singleton, List.mem_range] at this
    exact ⟨fun h => this.2 ⟨hd, h⟩, fun h => (this.1 h).2⟩
  have hxm : x ∈ (List.range 256).filter s.has := by rw [hx]; simp
  obtain ⟨h1, h2⟩ := List.mem_filter.1 hxm
  have hx2 := List.mem_range.1 h1
  refine ⟨x, hx2, ?_, hm⟩
  rw [List.find?_range_eq_some]
  refine ⟨h2, h1, fun j hj => ?_⟩
  have := hm j (by omega)
  cases e : s.has j with
  | false => rfl
  | true => have := this.1 e; omega
theorem nameD_inj {c d : Nat} (hc : c < 256) (hd : d < 256) (h : nameD c = nameD d) : c = d := by
  have h1 := decName_name hc []
  have h2 := decName_name hd []
  rw [h, h2] at h1
  simp at h1
  exact h1.symm
theorem textD_three (s : SetD) : (s = allD ∧ textD s = [46]) ∨ (∃ c, c < 256 ∧ s.len = 1 ∧ s ≠ allD ∧ (List.range 256).find? s.has = some c ∧ (∀ d, d < 256 → (s.has d = true ↔ d = c)) ∧ textD s = nameD c) ∨ (s ≠ allD ∧ s.len ≠ 1 ∧ textD s = 91 :: (runsF s 256 0 ++ [93])) := by
  by_cases h : s = allD
  · exact .inl ⟨h, by rw [textD, if_pos h]⟩
  · by_cases h1 : s.len = 1
    · obtain ⟨c, hc, hf, hm⟩ := one_has h1
      exact .inr (.inl ⟨c, hc, h1, h, hf, hm, by rw [textD, if_neg h, if_pos h1, hf]⟩)
    · exact .inr (.inr ⟨h, h1, by rw [textD, if_neg h, if_neg h1]⟩)
theorem textD_inj {s t : SetD} (hs : SetIn s) (ht : SetIn t) (h : textD s = textD t) : s = t := by
  have key : ∀ c, c < 256 → ∀ r, nameD c ≠ 91 :: r ∧ nameD c ≠ [46] := fun c hc r => by
    obtain ⟨x, y, hx, _, h91, _⟩ := nameD_head hc
    refine ⟨fun e => h91 (by rw [hx] at e; simp at e; exact e.1), fun e => ?_⟩
    unfold nameD at e
    split at e
    · rename_i hp
      simp at e
      exact (signs_has c hc hp).2.2.2.2.1 e
    · simp at e
  rcases textD_three s with ⟨s1, s2⟩ | ⟨c, hc, s1, s2, _, s3, s4⟩ | ⟨s1, s2, s3⟩ <;> rcases textD_three t with ⟨t1, t2⟩ | ⟨d, hd, t1, t2, _, t3, t4⟩ | ⟨t1, t2, t3⟩
  · rw [s1, t1]
  · rw [s2, t4] at h; exact absurd h.symm (key d hd []).2
  · rw [s2, t3] at h; simp at h
  · rw [s4, t2] at h; exact absurd h (key c hc []).2
  · rw [s4, t4] at h
    have := nameD_inj hc hd h
    subst this
    exact SetD.ext hs ht fun d hd => by rw [Bool.eq_iff_iff, s3 d hd, t3 d hd]
  · rw [s4, t3] at h; exact absurd h (key c hc _).1
  · rw [s3, t2] at h; simp at h
  · rw [s3, t4] at h; exact absurd h.symm (key d hd _).1
  · rw [s3, t3] at h
    rw [List.cons.injEq] at h
    refine SetD.ext hs ht fun d hd => ?_
    have e1 := decF_runs s hd 256 0 256 (by omega) (by omega)
    have e2 := decF_runs t hd 256 0 256 (by omega) (by omega)
    rw [h.2, e2] at e1
    simpa using e1.symm
end Go.Proofs.Ytkpdnpcmeadggaa
