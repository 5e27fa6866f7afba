/- Contracts of regex: Same. -/
import Derived.Test.YtniofdklhlbphaaDoorRgA
namespace Go.Proofs.YtniofdklhlbphaaDoor
open Go Go.E
set_option linter.unusedVariables false
set_option linter.unusedSimpArgs false
set_option maxRecDepth 10000
structure SmC (n : RgD) : Prop where
  run : ∀ {ro : Ro} {own : Chs} {K : Value → Ro → Chs → Prop} {v u : List Value} {m : RgD}, RgOk ro n v → RgOk ro m u → K (.bool (sameD n m)) ro own → CallOk Tryd.prog 29 #[.agg v.toArray, .agg u.toArray] ro own K
set_option maxHeartbeats 16000000 in
theorem smC : ∀ n, SmC n := RgD.ind fun k z l x y ih => ⟨fun {ro own K v u m} hv hu hk => by
  rw [RgOk] at hv
  obtain ⟨ad, cp, cs, rfl, hs, hrs, hks⟩ := hv
  obtain ⟨k2, z2, l2, x2, y2⟩ := m
  rw [RgOk] at hu
  obtain ⟨ad2, cp2, cs2, rfl, hs2, hrs2, hks2⟩ := hu
  have hle := hrs.le
  have hmx := hrs.max
  have hle2 := hrs2.le
  have hmx2 := hrs2.max
  unfold maxLen at hmx hmx2
  rw [sameD] at hk
  have hH : sameH (.mk k z l x y) (.mk k2 z2 l2 x2 y2) = (decide (k = k2) && decide (l.length = l2.length) && !((decide (k = 2) && decide (z ≠ z2)) || (decide (k = 5) && (decide (x ≠ x2) || decide (Max.max y (-1) ≠ Max.max y2 (-1)))))) := rfl
  rw [hH] at hk
  by_cases h1 : ¬ k = k2
  · rw [decide_eq_false h1] at hk
    refine CallOk.intro (args := [_, _]) (rs := [_]) T_ok Tryd.func29 Tryd.call29 rfl rfl (by kernel_rfl) rfl rfl ?_
    repeat (first
      | (show _ ∧ _; exact ⟨rfl, rfl, rfl⟩)
      | refine wkP ?_
      | (show OpOk _ _ _ _ _ _ _; first | refine opB (fun b => ?_) | refine opA (fun a' c' hc1 hc2 => ?_))
      | (show GJ _ _ _ _ _ _ _; first | (apply GJ.and; exact rfl; intro hg) | (apply GJ.or; exact rfl; intro hg)))
    exact Wk.outS Sup.auto (.refl _) hk
  have h1 := Decidable.of_not_not h1
  subst h1
  by_cases h2 : ¬ l.length = l2.length
  · rw [decide_eq_true rfl, decide_eq_false h2] at hk
    refine CallOk.intro (args := [_, _]) (rs := [_]) T_ok Tryd.func29 Tryd.call29 rfl rfl (by kernel_rfl) rfl rfl ?_
    repeat (first
      | (show _ ∧ _; exact ⟨rfl, rfl, rfl⟩)
      | refine wkP ?_
      | (show OpOk _ _ _ _ _ _ _; first | refine opB (fun b => ?_) | refine opA (fun a' c' hc1 hc2 => ?_))
      | (show GJ _ _ _ _ _ _ _; first | (apply GJ.and; exact rfl; intro hg) | (apply GJ.or; exact rfl; intro hg)))
    exact Wk.outS Sup.auto (.refl _) hk
  have h2 := Decidable.of_not_not h2
  rw [decide_eq_true rfl, decide_eq_true h2] at hk
  have hgood : ¬ (k = 2 ∧ z ≠ z2) → ¬ (k = 5 ∧ (x ≠ x2 ∨ Max.max y (-1) ≠ Max.max y2 (-1))) → K (.bool (sameK l l2)) ro own := fun g1 g2 => by
    rw [if_pos (by
      have e1 : (decide (k = 2) && decide (z ≠ z2)) = false := by simpa using g1
      have e2 : (decide (k = 5) && (decide (x ≠ x2) || decide (Max.max y (-1) ≠ Max.max y2 (-1)))) = false := by
        rw [Bool.eq_false_iff]
        intro h
        simp only [Bool.and_eq_true, Bool.or_eq_true, decide_eq_true_iff] at h
        exact g2 h
      rw [e1, e2]; rfl)] at hk
    exact hk
  have hbad : (k = 2 ∧ z ≠ z2) ∨ (k = 5 ∧ (x ≠ x2 ∨ Max.max y (-1) ≠ Max.max y2 (-1))) → K (.bool false) ro own := fun g1 => by
    rw [if_neg (by
      intro h
      simp only [Bool.and_eq_true, Bool.not_eq_true', Bool.or_eq_false_iff, Bool.and_eq_false_iff, decide_eq_false_iff_not] at h
      rcases g1 with ⟨g1, g2⟩ | ⟨g1, g2⟩
      · rcases h.2.1 with h | h
        · exact h g1
        · exact h g2
      · rcases h.2.2 with h | h
        · exact h g1
        · rcases g2 with g2 | g2
          · exact h.1 g2
          · exact h.2 g2)] at hk
    exact hk
  clear hk hH
  by_cases hk2 : k = 2
  · subst hk2
    by_cases hz : z = z2
    · have hk := hgood (fun h => h.2 hz) (fun h => absurd h.1 (by decide))
      subst hz
      refine CallOk.intro (args := [_, _]) (rs := [_]) T_ok Tryd.func29 Tryd.call29 rfl rfl (by kernel_rfl) rfl rfl ?_
      repeat (first
        | (show _ ∧ _; exact ⟨rfl, rfl, rfl⟩)
        | refine wkP ?_
        | (show OpOk _ _ _ _ _ _ _; first | refine opB (fun b => ?_) | refine opA (fun a' c' hc1 hc2 => ?_))
        | (show GJ _ _ _ _ _ _ _; first | (apply GJ.and; exact rfl; intro hg) | (apply GJ.or; exact rfl; intro hg)))
      rename_i bA
      refine OpOk.neqArr4 (e := 38) rfl rfl (by kernel_rfl) (by kernel_rfl) (by kernel_rfl) (by kernel_rfl) ?_
      repeat (first
        | (show _ ∧ _; exact ⟨rfl, rfl, rfl⟩)
        | refine wkP ?_
        | (show OpOk _ _ _ _ _ _ _; first | refine opB (fun b => ?_) | refine opA (fun a' c' hc1 hc2 => ?_))
        | (show GJ _ _ _ _ _ _ _; first | (apply GJ.and; exact rfl; intro hg) | (apply GJ.or; exact rfl; intro hg)))
      refine LoopOk.at (ι := Nat) Keep.auto (fun i => [(54, .int .i64 (i : Int))]) (fun i => .blk b 58 (nodeV 2 z ad2 l2.length cp2 x2 y2) :: .blk bA 58 (nodeV 2 z ad l.length cp x y) :: own) (fun i => i ≤ l.length ∧ sameK l l2 = sameK (l.drop i) (l2.drop i)) (fun i => l.length - i) 0 ?_ Sub.auto Sup.auto ?_
      · exact ⟨Nat.zero_le _, by simp⟩
      rintro i ⟨i1, i4⟩
      dsimp only [List.cons_append, List.nil_append] at i1 i4 ⊢
      by_cases hi : i < l.length
      · have hi2 : i < l2.length := by omega
        obtain ⟨kd, hkd⟩ : ∃ kd, l[i]? = some kd := ⟨_, List.getElem?_eq_getElem hi⟩
        obtain ⟨ke, hke⟩ : ∃ ke, l2[i]? = some ke := ⟨_, List.getElem?_eq_getElem hi2⟩
        have hvv := hks.get hkd
        have huu := hks2.get hke
        obtain ⟨ak, ck, hvk⟩ := hvv.cells
        obtain ⟨aq, cq, huk⟩ := huu.cells
        rw [hvk] at hvv
        rw [huk] at huu
        have hdr : l.drop i = kd :: l.drop (i + 1) := by
          rw [List.drop_eq_getElem_cons hi]
          congr 1
          rw [List.getElem?_eq_getElem hi] at hkd
          exact Option.some.inj hkd
        have hdr2 : l2.drop i = ke :: l2.drop (i + 1) := by
          rw [List.drop_eq_getElem_cons hi2]
          congr 1
          rw [List.getElem?_eq_getElem hi2] at hke
          exact Option.some.inj hke
        rw [hdr, hdr2, sameK] at i4
        repeat (first
          | (show _ ∧ _; exact ⟨rfl, rfl, rfl⟩)
          | refine wkP ?_
          | (show OpOk _ _ _ _ _ _ _; first | refine opB (fun b => ?_) | refine opA (fun a' c' hc1 hc2 => ?_))
          | (show GJ _ _ _ _ _ _ _; first | (apply GJ.and; exact rfl; intro hg) | (apply GJ.or; exact rfl; intro hg)))
        try rw [Int.toNat_natCast]
        refine QOk.loadRow rfl rfl (LdN.at hrs hvk) rfl ?_
        repeat (first
          | (show _ ∧ _; exact ⟨rfl, rfl, rfl⟩)
          | refine wkP ?_
          | (show OpOk _ _ _ _ _ _ _; first | refine opB (fun b => ?_) | refine opA (fun a' c' hc1 hc2 => ?_))
          | (show GJ _ _ _ _ _ _ _; first | (apply GJ.and; exact rfl; intro hg) | (apply GJ.or; exact rfl; intro hg)))
        try rw [Int.toNat_natCast]
        refine QOk.loadRow rfl rfl (LdN.at hrs2 huk) rfl ?_
        repeat (first
          | (show _ ∧ _; exact ⟨rfl, rfl, rfl⟩)
          | refine wkP ?_
          | (show OpOk _ _ _ _ _ _ _; first | refine opB (fun b => ?_) | refine opA (fun a' c' hc1 hc2 => ?_))
          | (show GJ _ _ _ _ _ _ _; first | (apply GJ.and; exact rfl; intro hg) | (apply GJ.or; exact rfl; intro hg)))
        refine (ih kd (List.mem_of_getElem? hkd)).run hvv huu ?_
        generalize sameD kd ke = R at i4 ⊢
        cases R with
        | true =>
          rw [if_pos rfl] at i4
          repeat (first
            | (show _ ∧ _; exact ⟨rfl, rfl, rfl⟩)
            | refine wkP ?_
            | (show OpOk _ _ _ _ _ _ _; first | refine opB (fun b => ?_) | refine opA (fun a' c' hc1 hc2 => ?_))
            | (show GJ _ _ _ _ _ _ _; first | (apply GJ.and; exact rfl; intro hg) | (apply GJ.or; exact rfl; intro hg)))
          refine Wk.id ⟨i + 1, ⟨rfl, ?_⟩, ?_, Sub.auto, Sup.auto⟩
          all_goals try dsimp only
          · exact ⟨by omega, i4⟩
          · omega
        | false =>
          rw [if_neg (by decide)] at i4
          rw [i4] at hk
          repeat (first
            | (show _ ∧ _; exact ⟨rfl, rfl, rfl⟩)
            | refine wkP ?_
            | (show OpOk _ _ _ _ _ _ _; first | refine opB (fun b => ?_) | refine opA (fun a' c' hc1 hc2 => ?_))
            | (show GJ _ _ _ _ _ _ _; first | (apply GJ.and; exact rfl; intro hg) | (apply GJ.or; exact rfl; intro hg)))
          exact Wk.outS Sup.auto (.refl _) hk
      · obtain rfl : i = l.length := by omega
        rw [List.drop_length, sameK] at i4
        rw [i4] at hk
        repeat (first
          | (show _ ∧ _; exact ⟨rfl, rfl, rfl⟩)
          | refine wkP ?_
          | (show OpOk _ _ _ _ _ _ _; first | refine opB (fun b => ?_) | refine opA (fun a' c' hc1 hc2 => ?_))
          | (show GJ _ _ _ _ _ _ _; first | (apply GJ.and; exact rfl; intro hg) | (apply GJ.or; exact rfl; intro hg)))
        exact Wk.outS Sup.auto (.refl _) hk
    · have hk := hbad (.inl ⟨rfl, hz⟩)
      refine CallOk.intro (args := [_, _]) (rs := [_]) T_ok Tryd.func29 Tryd.call29 rfl rfl (by kernel_rfl) rfl rfl ?_
      repeat (first
        | (show _ ∧ _; exact ⟨rfl, rfl, rfl⟩)
        | refine wkP ?_
        | (show OpOk _ _ _ _ _ _ _; first | refine opB (fun b => ?_) | refine opA (fun a' c' hc1 hc2 => ?_))
        | (show GJ _ _ _ _ _ _ _; first | (apply GJ.and; exact rfl; intro hg) | (apply GJ.or; exact rfl; intro hg)))
      refine OpOk.neqArr4 (e := 38) rfl rfl (by kernel_rfl) (by kernel_rfl) (by kernel_rfl) (by kernel_rfl) ?_
      have hne : ¬ ((z.a : Int) = z2.a ∧ (z.b : Int) = z2.b ∧ (z.c : Int) = z2.c ∧ (z.d : Int) = z2.d) := fun h => hz (by
        obtain ⟨a, b, c, d⟩ := z
        obtain ⟨a', b', c', d'⟩ := z2
        simp only [SetD.mk.injEq] at h ⊢; omega)
      rw [decide_eq_false hne]
      repeat (first
        | (show _ ∧ _; exact ⟨rfl, rfl, rfl⟩)
        | refine wkP ?_
        | (show OpOk _ _ _ _ _ _ _; first | refine opB (fun b => ?_) | refine opA (fun a' c' hc1 hc2 => ?_))
        | (show GJ _ _ _ _ _ _ _; first | (apply GJ.and; exact rfl; intro hg) | (apply GJ.or; exact rfl; intro hg)))
      exact Wk.outS Sup.auto (.refl _) hk
  by_cases hk5 : k = 5
  · subst hk5
    by_cases hx : x ≠ x2
    · have hk := hbad (.inr ⟨rfl, .inl hx⟩)
      refine CallOk.intro (args := [_, _]) (rs := [_]) T_ok Tryd.func29 Tryd.call29 rfl rfl (by kernel_rfl) rfl rfl ?_
      repeat (first
        | (show _ ∧ _; exact ⟨rfl, rfl, rfl⟩)
        | refine wkP ?_
        | (show OpOk _ _ _ _ _ _ _; first | refine opB (fun b => ?_) | refine opA (fun a' c' hc1 hc2 => ?_))
        | (show GJ _ _ _ _ _ _ _; first | (apply GJ.and; exact rfl; intro hg) | (apply GJ.or; exact rfl; intro hg)))
      exact Wk.outS Sup.auto (.refl _) hk
    have hx := Decidable.of_not_not hx
    subst hx
    by_cases hy : Max.max y (-1) ≠ Max.max y2 (-1)
    · have hk := hbad (.inr ⟨rfl, .inr hy⟩)
      refine CallOk.intro (args := [_, _]) (rs := [_]) T_ok Tryd.func29 Tryd.call29 rfl rfl (by kernel_rfl) rfl rfl ?_
      repeat (first
        | (show _ ∧ _; exact ⟨rfl, rfl, rfl⟩)
        | refine wkP ?_
        | (show OpOk _ _ _ _ _ _ _; first | refine opB (fun b => ?_) | refine opA (fun a' c' hc1 hc2 => ?_))
        | (show GJ _ _ _ _ _ _ _; first | (apply GJ.and; exact rfl; intro hg) | (apply GJ.or; exact rfl; intro hg)))
      exact Wk.outS Sup.auto (.refl _) hk
    · have hy := Decidable.of_not_not hy
      have hk := hgood (fun h => absurd h.1 (by decide)) (fun h => h.2.elim (fun g => g rfl) (fun g => g hy))
      refine CallOk.intro (args := [_, _]) (rs := [_]) T_ok Tryd.func29 Tryd.call29 rfl rfl (by kernel_rfl) rfl rfl ?_
      repeat (first
        | (show _ ∧ _; exact ⟨rfl, rfl, rfl⟩)
        | refine wkP ?_
        | (show OpOk _ _ _ _ _ _ _; first | refine opB (fun b => ?_) | refine opA (fun a' c' hc1 hc2 => ?_))
        | (show GJ _ _ _ _ _ _ _; first | (apply GJ.and; exact rfl; intro hg) | (apply GJ.or; exact rfl; intro hg)))
      rename_i bA
      refine LoopOk.at (ι := Nat) Keep.auto (fun i => [(54, .int .i64 (i : Int))]) (fun i => .blk b 58 (nodeV 5 z2 ad2 l2.length cp2 x y2) :: .blk bA 58 (nodeV 5 z ad l.length cp x y) :: own) (fun i => i ≤ l.length ∧ sameK l l2 = sameK (l.drop i) (l2.drop i)) (fun i => l.length - i) 0 ?_ Sub.auto Sup.auto ?_
      · exact ⟨Nat.zero_le _, by simp⟩
      rintro i ⟨i1, i4⟩
      dsimp only [List.cons_append, List.nil_append] at i1 i4 ⊢
      by_cases hi : i < l.length
      · have hi2 : i < l2.length := by omega
        obtain ⟨kd, hkd⟩ : ∃ kd, l[i]? = some kd := ⟨_, List.getElem?_eq_getElem hi⟩
        obtain ⟨ke, hke⟩ : ∃ ke, l2[i]? = some ke := ⟨_, List.getElem?_eq_getElem hi2⟩
        have hvv := hks.get hkd
        have huu := hks2.get hke
        obtain ⟨ak, ck, hvk⟩ := hvv.cells
        obtain ⟨aq, cq, huk⟩ := huu.cells
        rw [hvk] at hvv
        rw [huk] at huu
        have hdr : l.drop i = kd :: l.drop (i + 1) := by
          rw [List.drop_eq_getElem_cons hi]
          congr 1
          rw [List.getElem?_eq_getElem hi] at hkd
          exact Option.some.inj hkd
        have hdr2 : l2.drop i = ke :: l2.drop (i + 1) := by
          rw [List.drop_eq_getElem_cons hi2]
          congr 1
          rw [List.getElem?_eq_getElem hi2] at hke
          exact Option.some.inj hke
        rw [hdr, hdr2, sameK] at i4
        repeat (first
          | (show _ ∧ _; exact ⟨rfl, rfl, rfl⟩)
          | refine wkP ?_
          | (show OpOk _ _ _ _ _ _ _; first | refine opB (fun b => ?_) | refine opA (fun a' c' hc1 hc2 => ?_))
          | (show GJ _ _ _ _ _ _ _; first | (apply GJ.and; exact rfl; intro hg) | (apply GJ.or; exact rfl; intro hg)))
        try rw [Int.toNat_natCast]
        refine QOk.loadRow rfl rfl (LdN.at hrs hvk) rfl ?_
        repeat (first
          | (show _ ∧ _; exact ⟨rfl, rfl, rfl⟩)
          | refine wkP ?_
          | (show OpOk _ _ _ _ _ _ _; first | refine opB (fun b => ?_) | refine opA (fun a' c' hc1 hc2 => ?_))
          | (show GJ _ _ _ _ _ _ _; first | (apply GJ.and; exact rfl; intro hg) | (apply GJ.or; exact rfl; intro hg)))
        try rw [Int.toNat_natCast]
        refine QOk.loadRow rfl rfl (LdN.at hrs2 huk) rfl ?_
        repeat (first
          | (show _ ∧ _; exact ⟨rfl, rfl, rfl⟩)
          | refine wkP ?_
          | (show OpOk _ _ _ _ _ _ _; first | refine opB (fun b => ?_) | refine opA (fun a' c' hc1 hc2 => ?_))
          | (show GJ _ _ _ _ _ _ _; first | (apply GJ.and; exact rfl; intro hg) | (apply GJ.or; exact rfl; intro hg)))
        refine (ih kd (List.mem_of_getElem? hkd)).run hvv huu ?_
        generalize sameD kd ke = R at i4 ⊢
        cases R with
        | true =>
          rw [if_pos rfl] at i4
          repeat (first
            | (show _ ∧ _; exact ⟨rfl, rfl, rfl⟩)
            | refine wkP ?_
            | (show OpOk _ _ _ _ _ _ _; first | refine opB (fun b => ?_) | refine opA (fun a' c' hc1 hc2 => ?_))
            | (show GJ _ _ _ _ _ _ _; first | (apply GJ.and; exact rfl; intro hg) | (apply GJ.or; exact rfl; intro hg)))
          refine Wk.id ⟨i + 1, ⟨rfl, ?_⟩, ?_, Sub.auto, Sup.auto⟩
          all_goals try dsimp only
          · exact ⟨by omega, i4⟩
          · omega
        | false =>
          rw [if_neg (by decide)] at i4
          rw [i4] at hk
          repeat (first
            | (show _ ∧ _; exact ⟨rfl, rfl, rfl⟩)
            | refine wkP ?_
            | (show OpOk _ _ _ _ _ _ _; first | refine opB (fun b => ?_) | refine opA (fun a' c' hc1 hc2 => ?_))
            | (show GJ _ _ _ _ _ _ _; first | (apply GJ.and; exact rfl; intro hg) | (apply GJ.or; exact rfl; intro hg)))
          exact Wk.outS Sup.auto (.refl _) hk
      · obtain rfl : i = l.length := by omega
        rw [List.drop_length, sameK] at i4
        rw [i4] at hk
        repeat (first
          | (show _ ∧ _; exact ⟨rfl, rfl, rfl⟩)
          | refine wkP ?_
          | (show OpOk _ _ _ _ _ _ _; first | refine opB (fun b => ?_) | refine opA (fun a' c' hc1 hc2 => ?_))
          | (show GJ _ _ _ _ _ _ _; first | (apply GJ.and; exact rfl; intro hg) | (apply GJ.or; exact rfl; intro hg)))
        exact Wk.outS Sup.auto (.refl _) hk
  have hk := hgood (fun h => hk2 h.1) (fun h => hk5 h.1)
  refine CallOk.intro (args := [_, _]) (rs := [_]) T_ok Tryd.func29 Tryd.call29 rfl rfl (by kernel_rfl) rfl rfl ?_
  repeat (first
    | (show _ ∧ _; exact ⟨rfl, rfl, rfl⟩)
    | refine wkP ?_
    | (show OpOk _ _ _ _ _ _ _; first | refine opB (fun b => ?_) | refine opA (fun a' c' hc1 hc2 => ?_))
    | (show GJ _ _ _ _ _ _ _; first | (apply GJ.and; exact rfl; intro hg) | (apply GJ.or; exact rfl; intro hg)))
  rename_i bA
  refine LoopOk.at (ι := Nat) Keep.auto (fun i => [(54, .int .i64 (i : Int))]) (fun i => .blk b 58 (nodeV k z2 ad2 l2.length cp2 x2 y2) :: .blk bA 58 (nodeV k z ad l.length cp x y) :: own) (fun i => i ≤ l.length ∧ sameK l l2 = sameK (l.drop i) (l2.drop i)) (fun i => l.length - i) 0 ?_ Sub.auto Sup.auto ?_
  · exact ⟨Nat.zero_le _, by simp⟩
  rintro i ⟨i1, i4⟩
  dsimp only [List.cons_append, List.nil_append] at i1 i4 ⊢
  by_cases hi : i < l.length
  · have hi2 : i < l2.length := by omega
    obtain ⟨kd, hkd⟩ : ∃ kd, l[i]? = some kd := ⟨_, List.getElem?_eq_getElem hi⟩
    obtain ⟨ke, hke⟩ : ∃ ke, l2[i]? = some ke := ⟨_, List.getElem?_eq_getElem hi2⟩
    have hvv := hks.get hkd
    have huu := hks2.get hke
    obtain ⟨ak, ck, hvk⟩ := hvv.cells
    obtain ⟨aq, cq, huk⟩ := huu.cells
    rw [hvk] at hvv
    rw [huk] at huu
    have hdr : l.drop i = kd :: l.drop (i + 1) := by
      rw [List.drop_eq_getElem_cons hi]
      congr 1
      rw [List.getElem?_eq_getElem hi] at hkd
      exact Option.some.inj hkd
    have hdr2 : l2.drop i = ke :: l2.drop (i + 1) := by
      rw [List.drop_eq_getElem_cons hi2]
      congr 1
      rw [List.getElem?_eq_getElem hi2] at hke
      exact Option.some.inj hke
    rw [hdr, hdr2, sameK] at i4
    repeat (first
      | (show _ ∧ _; exact ⟨rfl, rfl, rfl⟩)
      | refine wkP ?_
      | (show OpOk _ _ _ _ _ _ _; first | refine opB (fun b => ?_) | refine opA (fun a' c' hc1 hc2 => ?_))
      | (show GJ _ _ _ _ _ _ _; first | (apply GJ.and; exact rfl; intro hg) | (apply GJ.or; exact rfl; intro hg)))
    try rw [Int.toNat_natCast]
    refine QOk.loadRow rfl rfl (LdN.at hrs hvk) rfl ?_
    repeat (first
      | (show _ ∧ _; exact ⟨rfl, rfl, rfl⟩)
      | refine wkP ?_
      | (show OpOk _ _ _ _ _ _ _; first | refine opB (fun b => ?_) | refine opA (fun a' c' hc1 hc2 => ?_))
      | (show GJ _ _ _ _ _ _ _; first | (apply GJ.and; exact rfl; intro hg) | (apply GJ.or; exact rfl; intro hg)))
    try rw [Int.toNat_natCast]
    refine QOk.loadRow rfl rfl (LdN.at hrs2 huk) rfl ?_
    repeat (first
      | (show _ ∧ _; exact ⟨rfl, rfl, rfl⟩)
      | refine wkP ?_
      | (show OpOk _ _ _ _ _ _ _; first | refine opB (fun b => ?_) | refine opA (fun a' c' hc1 hc2 => ?_))
      | (show GJ _ _ _ _ _ _ _; first | (apply GJ.and; exact rfl; intro hg) | (apply GJ.or; exact rfl; intro hg)))
    refine (ih kd (List.mem_of_getElem? hkd)).run hvv huu ?_
    generalize sameD kd ke = R at i4 ⊢
    cases R with
    | true =>
      rw [if_pos rfl] at i4
      repeat (first
        | (show _ ∧ _; exact ⟨rfl, rfl, rfl⟩)
        | refine wkP ?_
        | (show OpOk _ _ _ _ _ _ _; first | refine opB (fun b => ?_) | refine opA (fun a' c' hc1 hc2 => ?_))
        | (show GJ _ _ _ _ _ _ _; first | (apply GJ.and; exact rfl; intro hg) | (apply GJ.or; exact rfl; intro hg)))
      refine Wk.id ⟨i + 1, ⟨rfl, ?_⟩, ?_, Sub.auto, Sup.auto⟩
      all_goals try dsimp only
      · exact ⟨by omega, i4⟩
      · omega
    | false =>
      rw [if_neg (by decide)] at i4
      rw [i4] at hk
      repeat (first
        | (show _ ∧ _; exact ⟨rfl, rfl, rfl⟩)
        | refine wkP ?_
        | (show OpOk _ _ _ _ _ _ _; first | refine opB (fun b => ?_) | refine opA (fun a' c' hc1 hc2 => ?_))
        | (show GJ _ _ _ _ _ _ _; first | (apply GJ.and; exact rfl; intro hg) | (apply GJ.or; exact rfl; intro hg)))
      exact Wk.outS Sup.auto (.refl _) hk
  · obtain rfl : i = l.length := by omega
    rw [List.drop_length, sameK] at i4
    rw [i4] at hk
    repeat (first
      | (show _ ∧ _; exact ⟨rfl, rfl, rfl⟩)
      | refine wkP ?_
      | (show OpOk _ _ _ _ _ _ _; first | refine opB (fun b => ?_) | refine opA (fun a' c' hc1 hc2 => ?_))
      | (show GJ _ _ _ _ _ _ _; first | (apply GJ.and; exact rfl; intro hg) | (apply GJ.or; exact rfl; intro hg)))
    exact Wk.outS Sup.auto (.refl _) hk⟩
end Go.Proofs.YtniofdklhlbphaaDoor
