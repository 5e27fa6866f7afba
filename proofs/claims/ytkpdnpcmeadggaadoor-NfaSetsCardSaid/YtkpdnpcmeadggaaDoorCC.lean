/- Contracts of class: Split. -/
import Derived.Test.YtkpdnpcmeadggaaDoorCA
namespace Go.Proofs.YtkpdnpcmeadggaaDoor
open Go Go.E
set_option linter.unusedVariables false
set_option maxRecDepth 10000
def stepD (o : List SetD) (s : SetD) : List SetD := o.flatMap (cutD s)
theorem splitD_eq (l : List SetD) : splitD l = sortD (l.foldl stepD [allD]) := rfl
/-- Pieces: none is empty; together they are all bytes. -/
structure Pieces (o : List SetD) : Prop where
  each : ∀ q ∈ o, SetIn q ∧ q ≠ ⟨0, 0, 0, 0⟩
  sum : sumL o = 256
theorem Pieces.len {o : List SetD} (h : Pieces o) : o.length ≤ 256 := by have := sumL_ge h.each; have := h.sum; omega
theorem Pieces.one : Pieces [allD] := ⟨fun q hq => by simp at hq; subst hq; exact ⟨SetIn.all, by decide⟩, by decide +kernel⟩
theorem sumL_flat {s : SetD} (hs : SetIn s) : ∀ {o : List SetD}, (∀ q ∈ o, SetIn q) → sumL (o.flatMap (cutD s)) = sumL o
  | [], _ => rfl
  | p :: o, h => by
    rw [List.flatMap_cons, sumL_append, sumL_flat hs (fun q hq => h q (by simp [hq])), cutD_sum hs (h p (by simp))]
    simp [sumL]
theorem Pieces.step {o : List SetD} {s : SetD} (h : Pieces o) (hs : SetIn s) : Pieces (stepD o s) := ⟨fun q hq => by
  obtain ⟨p, hp, hq⟩ := List.mem_flatMap.1 hq
  exact cutD_in (h.each p hp).1 q hq, by rw [stepD, sumL_flat hs (fun q hq => (h.each q hq).1)]; exact h.sum⟩
/-- Some of the pieces' cuts. -/
theorem Pieces.part {o : List SetD} {s : SetD} {j : Nat} (h : Pieces o) (hs : SetIn s) : ((o.take j).flatMap (cutD s)).length ≤ 256 := by
  have h1 := (h.step hs).len
  have h2 : stepD o s = (o.take j).flatMap (cutD s) ++ (o.drop j).flatMap (cutD s) := by rw [stepD, ← List.flatMap_append, List.take_append_drop]
  rw [h2, List.length_append] at h1
  omega
section
variable {ro : Ro} {own r : Chs} {K : Value → Ro → Chs → Prop} {g : Chunk → Chs}
set_option maxHeartbeats 2000000 in
theorem split_ok {l : List SetD} {a : Option Addr} {cap : Nat} (ht : TabOk ro) (hs : ∀ s ∈ l, SetIn s) (hl : l.length ≤ 1000) (hr : Rds ro own a l.length cap 4 (setsV l))
    (hk : ∀ a' c', (splitD l).length ≤ c' → c' ≤ maxLen → K (.slice a' (splitD l).length c') ro (.sl a' (splitD l).length c' 43 4 (setsV (splitD l)) :: own)) : CallOk Tryd.prog 10 #[.slice a l.length cap] ro own K := by
  refine CallOk.intro (args := [_]) (rs := [_]) T_ok Tryd.func10 Tryd.call10 rfl rfl (by kernel_rfl) rfl rfl ?_
  repeat (first
    | (show _ ∧ _; exact ⟨rfl, rfl, rfl⟩)
    | refine wkT ?_
    | (show OpOk _ _ _ _ _ _ _; first | refine opB (fun b => ?_) | refine opA (fun a' c' hc1 hc2 => ?_))
    | (show GJ _ _ _ _ _ _ _; first | (apply GJ.and; exact rfl; intro hg) | (apply GJ.or; exact rfl; intro hg)))
  refine all_ok ?_
  repeat (first
    | (show _ ∧ _; exact ⟨rfl, rfl, rfl⟩)
    | refine wkT ?_
    | (show OpOk _ _ _ _ _ _ _; first | refine opB (fun b => ?_) | refine opA (fun a' c' hc1 hc2 => ?_))
    | (show GJ _ _ _ _ _ _ _; first | (apply GJ.and; exact rfl; intro hg) | (apply GJ.or; exact rfl; intro hg)))
  refine LoopOk.at (ι := Nat × List SetD × Option Addr × Nat) Keep.auto (fun (i, o, a1, c1) => [(15, .int .i64 (i : Int)), (3, .slice a1 o.length c1)]) (fun (i, o, a1, c1) => .sl a1 o.length c1 43 4 (setsV o) :: own) (fun (i, o, a1, c1) => i ≤ l.length ∧ Pieces o ∧ o.length ≤ c1 ∧ c1 ≤ maxLen ∧ o = (l.take i).foldl stepD [allD]) (fun (i, o, a1, c1) => l.length - i) (0, [allD], some ⟨b, 0, none⟩, 1) ?_ Sub.auto Sup.auto ?_
  · exact ⟨by omega, Pieces.one, by simp, by decide, rfl⟩
  rintro ⟨i, o, a1, c1⟩ ⟨i1, i2, i3, i4, i5⟩
  dsimp only [List.cons_append, List.nil_append] at i1 i2 i3 i4 i5 ⊢
  have hol := i2.len
  repeat (first
    | (show _ ∧ _; exact ⟨rfl, rfl, rfl⟩)
    | refine wkT ?_
    | (show OpOk _ _ _ _ _ _ _; first | refine opB (fun b => ?_) | refine opA (fun a' c' hc1 hc2 => ?_))
    | (show GJ _ _ _ _ _ _ _; first | (apply GJ.and; exact rfl; intro hg) | (apply GJ.or; exact rfl; intro hg)))
  refine Br.cases (fun hg => ?_) (fun hg => ?_)
  · obtain ⟨s, hsj⟩ : ∃ s, l[i]? = some s := ⟨_, List.getElem?_eq_getElem (by omega)⟩
    have hsi := hs s (List.mem_of_getElem? hsj)
    have htk : l.take (i + 1) = l.take i ++ [s] := by rw [List.take_add_one, hsj]; rfl
    repeat (first
      | (show _ ∧ _; exact ⟨rfl, rfl, rfl⟩)
      | refine wkT ?_
      | (show OpOk _ _ _ _ _ _ _; first | refine opB (fun b => ?_) | refine opA (fun a' c' hc1 hc2 => ?_))
      | (show GJ _ _ _ _ _ _ _; first | (apply GJ.and; exact rfl; intro hg) | (apply GJ.or; exact rfl; intro hg)))
    refine OpOk.loadRow rfl rfl (LdN.atR hr (setsV_drop _ _ _ hsj) (by omega)) rfl ?_
    repeat (first
      | (show _ ∧ _; exact ⟨rfl, rfl, rfl⟩)
      | refine wkT ?_
      | (show OpOk _ _ _ _ _ _ _; first | refine opB (fun b => ?_) | refine opA (fun a' c' hc1 hc2 => ?_))
      | (show GJ _ _ _ _ _ _ _; first | (apply GJ.and; exact rfl; intro hg) | (apply GJ.or; exact rfl; intro hg)))
    obtain ⟨q, hq⟩ : ∃ q, q = b := ⟨_, rfl⟩
    subst hq
    refine LoopOk.at (ι := Nat × List SetD × Option Addr × Nat) Keep.auto (fun (j, nx, a2, c2) => [(21, .int .i64 (j : Int)), (6, .slice a2 nx.length c2)]) (fun (j, nx, a2, c2) => .sl a2 nx.length c2 43 4 (setsV nx) :: .blk q 43 (setV s) :: .sl a1 o.length c1 43 4 (setsV o) :: own) (fun (j, nx, a2, c2) => j ≤ o.length ∧ nx.length ≤ c2 ∧ c2 ≤ maxLen ∧ nx = (o.take j).flatMap (cutD s)) (fun (j, nx, a2, c2) => o.length - j) (0, [], none, 0) ?_ Sub.auto Sup.auto ?_
    · exact ⟨by omega, by simp, Nat.zero_le _, rfl⟩
    rintro ⟨j, nx, a2, c2⟩ ⟨j1, j2, j3, j4⟩
    dsimp only [List.cons_append, List.nil_append] at j1 j2 j3 j4 ⊢
    have hnl := i2.part (j := j) hsi
    rw [← j4] at hnl
    repeat (first
      | (show _ ∧ _; exact ⟨rfl, rfl, rfl⟩)
      | refine wkT ?_
      | (show OpOk _ _ _ _ _ _ _; first | refine opB (fun b => ?_) | refine opA (fun a' c' hc1 hc2 => ?_))
      | (show GJ _ _ _ _ _ _ _; first | (apply GJ.and; exact rfl; intro hg) | (apply GJ.or; exact rfl; intro hg)))
    refine Br.cases (fun hg2 => ?_) (fun hg2 => ?_)
    · obtain ⟨p, hpj⟩ : ∃ p, o[j]? = some p := ⟨_, List.getElem?_eq_getElem (by omega)⟩
      have hpi := (i2.each p (List.mem_of_getElem? hpj)).1
      have htk2 : o.take (j + 1) = o.take j ++ [p] := by rw [List.take_add_one, hpj]; rfl
      have hro : Rds ro (.sl a2 nx.length c2 43 4 (setsV nx) :: .blk q 43 (setV s) :: .sl a1 o.length c1 43 4 (setsV o) :: own) a1 o.length c1 4 (setsV o) := Rds.hasSl i3 i4 (setsV_len _)
      repeat (first
        | (show _ ∧ _; exact ⟨rfl, rfl, rfl⟩)
        | refine wkT ?_
        | (show OpOk _ _ _ _ _ _ _; first | refine opB (fun b => ?_) | refine opA (fun a' c' hc1 hc2 => ?_))
        | (show GJ _ _ _ _ _ _ _; first | (apply GJ.and; exact rfl; intro hg) | (apply GJ.or; exact rfl; intro hg)))
      refine OpOk.loadRow rfl rfl (LdN.atR hro (setsV_drop _ _ _ hpj) (by omega)) rfl ?_
      repeat (first
        | (show _ ∧ _; exact ⟨rfl, rfl, rfl⟩)
        | refine wkT ?_
        | (show OpOk _ _ _ _ _ _ _; first | refine opB (fun b => ?_) | refine opA (fun a' c' hc1 hc2 => ?_))
        | (show GJ _ _ _ _ _ _ _; first | (apply GJ.and; exact rfl; intro hg) | (apply GJ.or; exact rfl; intro hg)))
      refine Bs.all ?_
      repeat (first
        | (show _ ∧ _; exact ⟨rfl, rfl, rfl⟩)
        | refine wkT ?_
        | (show OpOk _ _ _ _ _ _ _; first | refine opB (fun b => ?_) | refine opA (fun a' c' hc1 hc2 => ?_))
        | (show GJ _ _ _ _ _ _ _; first | (apply GJ.and; exact rfl; intro hg) | (apply GJ.or; exact rfl; intro hg)))
      refine and_ok hpi hsi ?_
      repeat (first
        | (show _ ∧ _; exact ⟨rfl, rfl, rfl⟩)
        | refine wkT ?_
        | (show OpOk _ _ _ _ _ _ _; first | refine opB (fun b => ?_) | refine opA (fun a' c' hc1 hc2 => ?_))
        | (show GJ _ _ _ _ _ _ _; first | (apply GJ.and; exact rfl; intro hg) | (apply GJ.or; exact rfl; intro hg)))
      refine not_ok hsi ?_
      repeat (first
        | (show _ ∧ _; exact ⟨rfl, rfl, rfl⟩)
        | refine wkT ?_
        | (show OpOk _ _ _ _ _ _ _; first | refine opB (fun b => ?_) | refine opA (fun a' c' hc1 hc2 => ?_))
        | (show GJ _ _ _ _ _ _ _; first | (apply GJ.and; exact rfl; intro hg) | (apply GJ.or; exact rfl; intro hg)))
      refine and_ok hpi (SetIn.not s) ?_
      repeat (first
        | (show _ ∧ _; exact ⟨rfl, rfl, rfl⟩)
        | refine wkT ?_
        | (show OpOk _ _ _ _ _ _ _; first | refine opB (fun b => ?_) | refine opA (fun a' c' hc1 hc2 => ?_))
        | (show GJ _ _ _ _ _ _ _; first | (apply GJ.and; exact rfl; intro hg) | (apply GJ.or; exact rfl; intro hg)))
      refine QOk.buildK (ps := [(0, .tmp 27), (1, .tmp 31)]) (setV (p.and s) ++ setV (p.and s.not)) rfl (by kernel_rfl) ?_
      repeat (first
        | (show _ ∧ _; exact ⟨rfl, rfl, rfl⟩)
        | refine wkT ?_
        | (show OpOk _ _ _ _ _ _ _; first | refine opB (fun b => ?_) | refine opA (fun a' c' hc1 hc2 => ?_))
        | (show GJ _ _ _ _ _ _ _; first | (apply GJ.and; exact rfl; intro hg) | (apply GJ.or; exact rfl; intro hg)))
      refine LoopOk.at (ι := Nat × List SetD × Option Addr × Nat) Keep.auto (fun (k, nx, a2, c2) => [(33, .int .i64 (k : Int)), (6, .slice a2 nx.length c2)]) (fun (k, nx, a2, c2) => .sl a2 nx.length c2 43 4 (setsV nx) :: .blk q 43 (setV s) :: .sl a1 o.length c1 43 4 (setsV o) :: own) (fun (k, nx2, a2, c2) => k ≤ 2 ∧ nx2.length ≤ 256 + k ∧ nx2.length ≤ c2 ∧ c2 ≤ maxLen ∧ nx2 = nx ++ ([p.and s, p.and s.not].take k).filter fun z => z != ⟨0, 0, 0, 0⟩) (fun (k, nx, a2, c2) => 2 - k) (0, nx, a2, c2) ?_ Sub.auto Sup.auto ?_
      · exact ⟨by omega, by omega, j2, j3, by simp⟩
      rintro ⟨k, nx2, a3, c3⟩ ⟨k1, k2, k3, k4, k5⟩
      dsimp only [List.cons_append, List.nil_append] at k1 k2 k3 k4 k5 ⊢
      repeat (first
        | (show _ ∧ _; exact ⟨rfl, rfl, rfl⟩)
        | refine wkT ?_
        | (show OpOk _ _ _ _ _ _ _; first | refine opB (fun b => ?_) | refine opA (fun a' c' hc1 hc2 => ?_))
        | (show GJ _ _ _ _ _ _ _; first | (apply GJ.and; exact rfl; intro hg) | (apply GJ.or; exact rfl; intro hg)))
      refine Br.cases (fun hg3 => ?_) (fun hg3 => ?_)
      · obtain ⟨z, hz, hdz, htz⟩ : ∃ z, SetIn z ∧ ((setV (p.and s) ++ setV (p.and s.not)).drop (k * 4)).take 4 = setV z ∧ [p.and s, p.and s.not].take (k + 1) = [p.and s, p.and s.not].take k ++ [z] := by
          have : k = 0 ∨ k = 1 := by omega
          rcases this with rfl | rfl
          · exact ⟨p.and s, hpi.and, rfl, rfl⟩
          · exact ⟨p.and s.not, hpi.and, rfl, rfl⟩
        repeat (first
          | (show _ ∧ _; exact ⟨rfl, rfl, rfl⟩)
          | refine wkT ?_
          | (show OpOk _ _ _ _ _ _ _; first | refine opB (fun b => ?_) | refine opA (fun a' c' hc1 hc2 => ?_))
          | (show GJ _ _ _ _ _ _ _; first | (apply GJ.and; exact rfl; intro hg) | (apply GJ.or; exact rfl; intro hg)))
        refine SeqOk.pass ?_
        repeat (first
          | (show _ ∧ _; exact ⟨rfl, rfl, rfl⟩)
          | refine wkT ?_
          | (show OpOk _ _ _ _ _ _ _; first | refine opB (fun b => ?_) | refine opA (fun a' c' hc1 hc2 => ?_))
          | (show GJ _ _ _ _ _ _ _; first | (apply GJ.and; exact rfl; intro hg) | (apply GJ.or; exact rfl; intro hg)))
        refine OpOk.indexRow (k := k) (e := 43) (n := 2) (z := 4) rfl rfl (by kernel_rfl) (.inr ⟨4, 22, by kernel_rfl⟩) (by kernel_rfl) rfl (by omega) hdz ?_
        repeat (first
          | (show _ ∧ _; exact ⟨rfl, rfl, rfl⟩)
          | refine wkT ?_
          | (show OpOk _ _ _ _ _ _ _; first | refine opB (fun b => ?_) | refine opA (fun a' c' hc1 hc2 => ?_))
          | (show GJ _ _ _ _ _ _ _; first | (apply GJ.and; exact rfl; intro hg) | (apply GJ.or; exact rfl; intro hg)))
        refine empty_ok ?_
        repeat (first
          | (show _ ∧ _; exact ⟨rfl, rfl, rfl⟩)
          | refine wkT ?_
          | (show OpOk _ _ _ _ _ _ _; first | refine opB (fun b => ?_) | refine opA (fun a' c' hc1 hc2 => ?_))
          | (show GJ _ _ _ _ _ _ _; first | (apply GJ.and; exact rfl; intro hg) | (apply GJ.or; exact rfl; intro hg)))
        refine Br.cases (fun he => ?_) (fun he => ?_)
        · repeat (first
            | (show _ ∧ _; exact ⟨rfl, rfl, rfl⟩)
            | refine wkT ?_
            | (show OpOk _ _ _ _ _ _ _; first | refine opB (fun b => ?_) | refine opA (fun a' c' hc1 hc2 => ?_))
            | (show GJ _ _ _ _ _ _ _; first | (apply GJ.and; exact rfl; intro hg) | (apply GJ.or; exact rfl; intro hg)))
          rw [show nx2.length + 1 = (nx2 ++ [z]).length by simp] at hc1 ⊢
          rw [flat_set, ← setsV_snoc]
          repeat (first
            | (show _ ∧ _; exact ⟨rfl, rfl, rfl⟩)
            | refine wkT ?_
            | (show OpOk _ _ _ _ _ _ _; first | refine opB (fun b => ?_) | refine opA (fun a' c' hc1 hc2 => ?_))
            | (show GJ _ _ _ _ _ _ _; first | (apply GJ.and; exact rfl; intro hg) | (apply GJ.or; exact rfl; intro hg)))
          refine Wk.id ⟨(k + 1, nx2 ++ [z], a', c'), ⟨rfl, ?_⟩, ?_, Sub.auto, Sup.auto⟩
          all_goals try dsimp only
          · refine ⟨by omega, by simp; omega, hc1, hc2, ?_⟩
            have hf : [z].filter (fun z => z != ⟨0, 0, 0, 0⟩) = [z] := by
              by_cases hzz : z = ⟨0, 0, 0, 0⟩
              · exact absurd hzz (by first | exact he | simpa using he)
              · simp [hzz]
            rw [k5, htz, List.filter_append, hf, List.append_assoc]
          · omega
        · repeat (first
            | (show _ ∧ _; exact ⟨rfl, rfl, rfl⟩)
            | refine wkT ?_
            | (show OpOk _ _ _ _ _ _ _; first | refine opB (fun b => ?_) | refine opA (fun a' c' hc1 hc2 => ?_))
            | (show GJ _ _ _ _ _ _ _; first | (apply GJ.and; exact rfl; intro hg) | (apply GJ.or; exact rfl; intro hg)))
          refine Wk.id ⟨(k + 1, nx2, a3, c3), ⟨rfl, ?_⟩, ?_, Sub.auto, Sup.auto⟩
          all_goals try dsimp only
          · refine ⟨by omega, by omega, k3, k4, ?_⟩
            have hf : [z].filter (fun z => z != ⟨0, 0, 0, 0⟩) = [] := by
              by_cases hzz : z = ⟨0, 0, 0, 0⟩
              · simp [hzz]
              · exact absurd hzz (by first | exact he | simpa using he)
            rw [k5, htz, List.filter_append, hf, List.append_nil]
          · omega
      · obtain rfl : k = 2 := by omega
        have e : nx2 = nx ++ cutD s p := k5
        repeat (first
          | (show _ ∧ _; exact ⟨rfl, rfl, rfl⟩)
          | refine wkT ?_
          | (show OpOk _ _ _ _ _ _ _; first | refine opB (fun b => ?_) | refine opA (fun a' c' hc1 hc2 => ?_))
          | (show GJ _ _ _ _ _ _ _; first | (apply GJ.and; exact rfl; intro hg) | (apply GJ.or; exact rfl; intro hg)))
        refine Wk.id ⟨(j + 1, nx2, a3, c3), ⟨rfl, ?_⟩, ?_, Sub.auto, Sup.auto⟩
        all_goals try dsimp only
        · refine ⟨by omega, k3, k4, ?_⟩
          rw [e, j4, htk2, List.flatMap_append]
          simp
        · omega
    · obtain rfl : j = o.length := by omega
      rw [List.take_length] at j4
      repeat (first
        | (show _ ∧ _; exact ⟨rfl, rfl, rfl⟩)
        | refine wkT ?_
        | (show OpOk _ _ _ _ _ _ _; first | refine opB (fun b => ?_) | refine opA (fun a' c' hc1 hc2 => ?_))
        | (show GJ _ _ _ _ _ _ _; first | (apply GJ.and; exact rfl; intro hg) | (apply GJ.or; exact rfl; intro hg)))
      refine Wk.id ⟨(i + 1, nx, a2, c2), ⟨rfl, ?_⟩, ?_, Sub.auto, Sup.auto⟩
      all_goals try dsimp only
      · exact ⟨by omega, by rw [j4]; exact i2.step hsi, j2, j3, by rw [htk, List.foldl_append, ← i5, j4]; rfl⟩
      · omega
  · obtain rfl : i = l.length := by omega
    rw [List.take_length] at i5
    repeat (first
      | (show _ ∧ _; exact ⟨rfl, rfl, rfl⟩)
      | refine wkT ?_
      | (show OpOk _ _ _ _ _ _ _; first | refine opB (fun b => ?_) | refine opA (fun a' c' hc1 hc2 => ?_))
      | (show GJ _ _ _ _ _ _ _; first | (apply GJ.and; exact rfl; intro hg) | (apply GJ.or; exact rfl; intro hg)))
    refine sorted_ok (l := o) ht (fun q hq => (i2.each q hq).1) (by omega) (Rds.hasSl i3 i4 (setsV_len _)) (fun a2 c2 h1 h2 => ?_)
    have e : sortD o = splitD l := by rw [splitD_eq, ← i5]
    rw [e] at h1 ⊢
    repeat (first
      | (show _ ∧ _; exact ⟨rfl, rfl, rfl⟩)
      | refine wkT ?_
      | (show OpOk _ _ _ _ _ _ _; first | refine opB (fun b => ?_) | refine opA (fun a' c' hc1 hc2 => ?_))
      | (show GJ _ _ _ _ _ _ _; first | (apply GJ.and; exact rfl; intro hg) | (apply GJ.or; exact rfl; intro hg)))
    exact Wk.outS Sup.auto (.refl _) (hk _ _ h1 h2)
end
end Go.Proofs.YtkpdnpcmeadggaaDoor
