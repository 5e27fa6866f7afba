/- Contracts of class: sorted, Split. -/
import Derived.Test.YtkpdnpcmeadggaaDoorC8
import Derived.Test.YtkpdnpcmeadggaaDoorEn3
namespace Go.Proofs.YtkpdnpcmeadggaaDoor
open Go Go.E
set_option linter.unusedVariables false
set_option maxRecDepth 10000
def setsV (l : List SetD) : List Value := l.flatMap setV
theorem setsV_len (l : List SetD) : (setsV l).length = l.length * 4 := by
  induction l with
  | nil => rfl
  | cons s l ih => simp [setsV, setV] at ih ⊢; omega
theorem setsV_drop : ∀ (l : List SetD) (i : Nat) (s : SetD), l[i]? = some s → ((setsV l).drop (i * 4)).take 4 = setV s
  | [], i, s, h => by simp at h
  | x :: l, 0, s, h => by simp at h; subst h; rfl
  | x :: l, i + 1, s, h => by
    rw [show (i + 1) * 4 = 4 + i * 4 by omega]
    show List.take 4 (List.drop (4 + i * 4) (setV x ++ setsV l)) = _
    rw [← List.drop_drop, List.drop_left' (by rfl)]
    exact setsV_drop l i s (by simpa using h)
theorem setsV_snoc (l : List SetD) (s : SetD) : setsV (l ++ [s]) = setsV l ++ setV s := by simp [setsV]
theorem flat_set (s : SetD) : flat [.agg (setV s).toArray] = setV s := rfl
theorem setsV_one (l : List SetD) : ∀ u ∈ setsV l, u.oneCell' = true := fun u hu => by
  obtain ⟨s, _, hs⟩ := List.mem_flatMap.1 hu
  simp [setV] at hs
  rcases hs with rfl | rfl | rfl | rfl <;> rfl
/-- Is a byte the least one? -/
def SetD.firstIs (s : SetD) (c : Nat) : Bool := (List.range 256).find? s.has == some c
def sortD (l : List SetD) : List SetD := (List.range 256).flatMap fun c => l.filter fun s => s.firstIs c
theorem firstIs_none {c : Nat} : SetD.firstIs ⟨0, 0, 0, 0⟩ c = false := by
  have : (List.range 256).find? (SetD.has ⟨0, 0, 0, 0⟩) = none := by
    rw [List.find?_eq_none]; intro x _; rw [SetD.has_zero]; simp
  unfold SetD.firstIs; rw [this]; rfl
theorem firstIs_some {s : SetD} {c d : Nat} (hc : c < 256) (h1 : s.has c = true) (h2 : ∀ j, j < c → s.has j = false) : s.firstIs d = decide (c = d) := by
  have : (List.range 256).find? s.has = some c := by
    rw [List.find?_range_eq_some]
    exact ⟨h1, List.mem_range.2 hc, fun j hj => by rw [h2 j hj]; rfl⟩
  unfold SetD.firstIs; rw [this]
  by_cases h : c = d <;> simp [h]
section
variable {ro : Ro} {own r : Chs} {K : Value → Ro → Chs → Prop} {g : Chunk → Chs}
set_option maxHeartbeats 1000000 in
theorem sorted_ok {l : List SetD} {a : Option Addr} {cap : Nat} (ht : TabOk ro) (hs : ∀ s ∈ l, SetIn s) (hl : l.length ≤ 1000) (hr : Rds ro own a l.length cap 4 (setsV l))
    (hk : ∀ a' c', (sortD l).length ≤ c' → c' ≤ maxLen → K (.slice a' (sortD l).length c') ro (.sl a' (sortD l).length c' 43 4 (setsV (sortD l)) :: own)) : CallOk Tryd.prog 30 #[.slice a l.length cap] ro own K := by
  refine CallOk.intro (args := [_]) (rs := [_]) T_ok Tryd.func30 Tryd.call30 rfl rfl (by kernel_rfl) rfl rfl ?_
  repeat (first
    | (show _ ∧ _; exact ⟨rfl, rfl, rfl⟩)
    | refine wkT ?_
    | (show OpOk _ _ _ _ _ _ _; first | refine opB (fun b => ?_) | refine opA (fun a' c' hc1 hc2 => ?_))
    | (show GJ _ _ _ _ _ _ _; first | (apply GJ.and; exact rfl; intro hg) | (apply GJ.or; exact rfl; intro hg)))
  refine LoopOk.at (ι := Nat × List SetD × Option Addr × Nat) Keep.auto (fun (c, o, a1, c1) => [(9, .int .i64 (c : Int)), (3, .slice a1 o.length c1)]) (fun (c, o, a1, c1) => .sl a1 o.length c1 43 4 (setsV o) :: own) (fun (c, o, a1, c1) => c ≤ 256 ∧ o.length ≤ 1000 * c ∧ o.length ≤ c1 ∧ c1 ≤ maxLen ∧ o = (List.range c).flatMap fun c => l.filter fun s => s.firstIs c) (fun (c, o, a1, c1) => 256 - c) (0, [], none, 0) ?_ Sub.auto Sup.auto ?_
  · exact ⟨by omega, by simp, by simp, Nat.zero_le _, rfl⟩
  rintro ⟨c, o, a1, c1⟩ ⟨i1, i2, i3, i4, i5⟩
  dsimp only [List.cons_append, List.nil_append] at i1 i2 i3 i4 i5 ⊢
  repeat (first
    | (show _ ∧ _; exact ⟨rfl, rfl, rfl⟩)
    | refine wkT ?_
    | (show OpOk _ _ _ _ _ _ _; first | refine opB (fun b => ?_) | refine opA (fun a' c' hc1 hc2 => ?_))
    | (show GJ _ _ _ _ _ _ _; first | (apply GJ.and; exact rfl; intro hg) | (apply GJ.or; exact rfl; intro hg)))
  refine Br.cases (fun hg => ?_) (fun hg => ?_)
  · repeat (first
      | (show _ ∧ _; exact ⟨rfl, rfl, rfl⟩)
      | refine wkT ?_
      | (show OpOk _ _ _ _ _ _ _; first | refine opB (fun b => ?_) | refine opA (fun a' c' hc1 hc2 => ?_))
      | (show GJ _ _ _ _ _ _ _; first | (apply GJ.and; exact rfl; intro hg) | (apply GJ.or; exact rfl; intro hg)))
    refine LoopOk.at (ι := Nat × List SetD × Option Addr × Nat) Keep.auto (fun (j, o, a1, c1) => [(14, .int .i64 (j : Int)), (3, .slice a1 o.length c1)]) (fun (j, o, a1, c1) => .sl a1 o.length c1 43 4 (setsV o) :: own) (fun (j, o2, a1, c1) => j ≤ l.length ∧ o2.length ≤ 1000 * c + j ∧ o2.length ≤ c1 ∧ c1 ≤ maxLen ∧ o2 = o ++ (l.take j).filter fun s => s.firstIs c) (fun (j, o, a1, c1) => l.length - j) (0, o, a1, c1) ?_ Sub.auto Sup.auto ?_
    · exact ⟨by omega, by omega, i3, i4, by simp⟩
    rintro ⟨j, o2, a1, c1⟩ ⟨j1, j2, j3, j4, j5⟩
    dsimp only [List.cons_append, List.nil_append] at j1 j2 j3 j4 j5 ⊢
    repeat (first
      | (show _ ∧ _; exact ⟨rfl, rfl, rfl⟩)
      | refine wkT ?_
      | (show OpOk _ _ _ _ _ _ _; first | refine opB (fun b => ?_) | refine opA (fun a' c' hc1 hc2 => ?_))
      | (show GJ _ _ _ _ _ _ _; first | (apply GJ.and; exact rfl; intro hg) | (apply GJ.or; exact rfl; intro hg)))
    refine Br.cases (fun hg2 => ?_) (fun hg2 => ?_)
    · obtain ⟨s, hsj⟩ : ∃ s, l[j]? = some s := ⟨_, List.getElem?_eq_getElem (by omega)⟩
      have hsi := hs s (List.mem_of_getElem? hsj)
      have htk : l.take (j + 1) = l.take j ++ [s] := by rw [List.take_add_one, hsj]; rfl
      repeat (first
        | (show _ ∧ _; exact ⟨rfl, rfl, rfl⟩)
        | refine wkT ?_
        | (show OpOk _ _ _ _ _ _ _; first | refine opB (fun b => ?_) | refine opA (fun a' c' hc1 hc2 => ?_))
        | (show GJ _ _ _ _ _ _ _; first | (apply GJ.and; exact rfl; intro hg) | (apply GJ.or; exact rfl; intro hg)))
      refine SeqOk.pass ?_
      repeat (first
        | (show _ ∧ _; exact ⟨rfl, rfl, rfl⟩)
        | refine wkT ?_
        | (show OpOk _ _ _ _ _ _ _; first | refine opB (fun b => ?_) | refine opA (fun a' c' hc1 hc2 => ?_))
        | (show GJ _ _ _ _ _ _ _; first | (apply GJ.and; exact rfl; intro hg) | (apply GJ.or; exact rfl; intro hg)))
      refine OpOk.loadRow rfl rfl (LdN.atR hr (setsV_drop _ _ _ hsj) (by omega)) rfl ?_
      repeat (first
        | (show _ ∧ _; exact ⟨rfl, rfl, rfl⟩)
        | refine wkT ?_
        | (show OpOk _ _ _ _ _ _ _; first | refine opB (fun b => ?_) | refine opA (fun a' c' hc1 hc2 => ?_))
        | (show GJ _ _ _ _ _ _ _; first | (apply GJ.and; exact rfl; intro hg) | (apply GJ.or; exact rfl; intro hg)))
      refine first_ok ht hsi (fun h0 => ?_) (fun d hd h1 h2 => ?_)
      · have hf : s.firstIs c = false := by subst h0; exact firstIs_none
        repeat (first
          | (show _ ∧ _; exact ⟨rfl, rfl, rfl⟩)
          | refine wkT ?_
          | (show OpOk _ _ _ _ _ _ _; first | refine opB (fun b => ?_) | refine opA (fun a' c' hc1 hc2 => ?_))
          | (show GJ _ _ _ _ _ _ _; first | (apply GJ.and; exact rfl; intro hg) | (apply GJ.or; exact rfl; intro hg)))
        refine Wk.id ⟨(j + 1, o2, a1, c1), ⟨rfl, ?_⟩, ?_, Sub.auto, Sup.auto⟩
        all_goals try dsimp only
        · refine ⟨by omega, by omega, j3, j4, ?_⟩
          rw [j5, htk, List.filter_append]; simp [hf]
        · omega
      · have hf := firstIs_some (d := c) hd h1 h2
        by_cases hdc : d = c
        · subst hdc
          rw [decide_eq_true rfl] at hf
          repeat (first
            | (show _ ∧ _; exact ⟨rfl, rfl, rfl⟩)
            | refine wkT ?_
            | (show OpOk _ _ _ _ _ _ _; first | refine opB (fun b => ?_) | refine opA (fun a' c' hc1 hc2 => ?_))
            | (show GJ _ _ _ _ _ _ _; first | (apply GJ.and; exact rfl; intro hg) | (apply GJ.or; exact rfl; intro hg)))
          rw [show o2.length + 1 = (o2 ++ [s]).length by simp] at hc1 ⊢
          rw [flat_set, ← setsV_snoc]
          repeat (first
            | (show _ ∧ _; exact ⟨rfl, rfl, rfl⟩)
            | refine wkT ?_
            | (show OpOk _ _ _ _ _ _ _; first | refine opB (fun b => ?_) | refine opA (fun a' c' hc1 hc2 => ?_))
            | (show GJ _ _ _ _ _ _ _; first | (apply GJ.and; exact rfl; intro hg) | (apply GJ.or; exact rfl; intro hg)))
          refine Wk.id ⟨(j + 1, o2 ++ [s], a', c'), ⟨rfl, ?_⟩, ?_, Sub.auto, Sup.auto⟩
          all_goals try dsimp only
          · refine ⟨by omega, by simp; omega, hc1, hc2, ?_⟩
            rw [j5, htk, List.filter_append]; simp [hf]
          · omega
        · rw [decide_eq_false hdc] at hf
          repeat (first
            | (show _ ∧ _; exact ⟨rfl, rfl, rfl⟩)
            | refine wkT ?_
            | (show OpOk _ _ _ _ _ _ _; first | refine opB (fun b => ?_) | refine opA (fun a' c' hc1 hc2 => ?_))
            | (show GJ _ _ _ _ _ _ _; first | (apply GJ.and; exact rfl; intro hg) | (apply GJ.or; exact rfl; intro hg)))
          refine Wk.id ⟨(j + 1, o2, a1, c1), ⟨rfl, ?_⟩, ?_, Sub.auto, Sup.auto⟩
          all_goals try dsimp only
          · refine ⟨by omega, by omega, j3, j4, ?_⟩
            rw [j5, htk, List.filter_append]; simp [hf]
          · omega
    · obtain rfl : j = l.length := by omega
      rw [List.take_length] at j5
      repeat (first
        | (show _ ∧ _; exact ⟨rfl, rfl, rfl⟩)
        | refine wkT ?_
        | (show OpOk _ _ _ _ _ _ _; first | refine opB (fun b => ?_) | refine opA (fun a' c' hc1 hc2 => ?_))
        | (show GJ _ _ _ _ _ _ _; first | (apply GJ.and; exact rfl; intro hg) | (apply GJ.or; exact rfl; intro hg)))
      refine Wk.id ⟨(c + 1, o2, a1, c1), ⟨rfl, ?_⟩, ?_, Sub.auto, Sup.auto⟩
      all_goals try dsimp only
      · refine ⟨by omega, by omega, j3, j4, ?_⟩
        rw [j5, i5, List.range_succ, List.flatMap_append]
        simp
      · omega
  · obtain rfl : c = 256 := by omega
    have e : o = sortD l := i5
    subst e
    repeat (first
      | (show _ ∧ _; exact ⟨rfl, rfl, rfl⟩)
      | refine wkT ?_
      | (show OpOk _ _ _ _ _ _ _; first | refine opB (fun b => ?_) | refine opA (fun a' c' hc1 hc2 => ?_))
      | (show GJ _ _ _ _ _ _ _; first | (apply GJ.and; exact rfl; intro hg) | (apply GJ.or; exact rfl; intro hg)))
    exact Wk.outS Sup.auto (.refl _) (hk _ _ i3 i4)
/-- What both parts of a set are, that aren't empty. -/
def cutD (s p : SetD) : List SetD := [p.and s, p.and s.not].filter fun q => q != ⟨0, 0, 0, 0⟩
def splitD (l : List SetD) : List SetD := sortD (l.foldl (fun o s => o.flatMap (cutD s)) [allD])
theorem cutD_len (s p : SetD) : (cutD s p).length ≤ 2 := by
  unfold cutD
  exact Nat.le_trans (List.length_filter_le _ _) (by simp)
end
end Go.Proofs.YtkpdnpcmeadggaaDoor
