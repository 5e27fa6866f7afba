/- Contracts of regex: Check. -/
import Derived.Test.YtkpdnpcmeadggaaRgA
namespace Go.Proofs.Ytkpdnpcmeadggaa
open Go Go.E
set_option linter.unusedVariables false
set_option linter.unusedSimpArgs false
set_option maxRecDepth 10000
mutual
theorem check_left : ∀ (n : RgD) (M : Int), (checkD n M).1 = 0 → 0 ≤ (checkD n M).2 ∧ (checkD n M).2 ≤ M - 1
  | .mk k s l a b, M, h => by
    rw [checkD] at h ⊢
    split at h
    · cases h
    · rename_i h1
      rw [if_neg h1]
      split at h
      · rename_i h2; exact absurd h h2
      · rename_i h2
        rw [if_neg h2]
        split at h
        · rename_i h3; rw [if_pos h3]; dsimp only; omega
        · rename_i h3
          rw [if_neg h3]
          have := checkK_left l (M - 1) (by omega) h
          omega
theorem checkK_left : ∀ (l : List RgD) (M : Int), 0 ≤ M → (checkK l M).1 = 0 → 0 ≤ (checkK l M).2 ∧ (checkK l M).2 ≤ M
  | [], M, h0, h => by rw [checkK]; exact ⟨h0, Int.le_refl _⟩
  | x :: r, M, h0, h => by
    rw [checkK] at h ⊢
    split at h
    · rename_i h1; exact absurd h h1
    · rename_i h1
      rw [if_neg h1]
      have h2 := check_left x M (Decidable.of_not_not h1)
      have := checkK_left r (checkD x M).2 h2.1 h
      omega
end

structure ChC (n : RgD) : Prop where
  run : ∀ {ro : Ro} {r : Chs} {K : Value → Ro → Chs → Prop} {p : Nat} {v : List Value} {M d : Int}, RgOk ro n v → 0 ≤ M → M ≤ 100000 → 0 ≤ d → d + M ≤ 512 → K (.int .i64 ((checkD n M).1 : Int)) ro (.blk p 3 [.int .i64 (checkD n M).2] :: r) →
    CallOk Try.prog 19 #[.agg v.toArray, .int .i64 d, ptr' p] ro (.blk p 3 [.int .i64 M] :: r) K
set_option maxHeartbeats 16000000 in
theorem chC : ∀ n, ChC n := RgD.ind fun k z l x y ih => ⟨fun {ro r K p v M d} hv hM hM2 hd hdm hk => by
  rw [RgOk] at hv
  obtain ⟨ad, cp, cs, rfl, hs, hrs, hks⟩ := hv
  have hle := hrs.le
  have hmx := hrs.max
  unfold maxLen at hmx
  rw [checkD] at hk
  by_cases h0 : M - 1 < 0
  · rw [if_pos h0] at hk
    refine CallOk.intro (args := [_, _, _]) (rs := [_]) T_ok Try.func19 Try.call19 rfl rfl (by kernel_rfl) rfl rfl ?_
    repeat (first
      | (show _ ∧ _; exact ⟨rfl, rfl, rfl⟩)
      | refine wkP ?_
      | (show OpOk _ _ _ _ _ _ _; first | refine opB (fun b => ?_) | refine opA (fun a' c' hc1 hc2 => ?_))
      | (show GJ _ _ _ _ _ _ _; first | (apply GJ.and; exact rfl; intro hg) | (apply GJ.or; exact rfl; intro hg)))
    exact Wk.outS Sup.auto (.refl _) hk
  rw [if_neg h0] at hk
  have hformD : formD (.mk k z l x y) = (if k = 1 ∨ k = 2 then (if l ≠ [] then 5 else if k = 2 ∧ z = zeroS then 160 else 0) else if k = 3 ∨ k = 4 then (if l.length < 2 then 5 else 0)
    else if k = 5 then (if l.length ≠ 1 then 5 else if x < 0 ∨ 256 < x ∨ 256 < y ∨ (0 ≤ y ∧ y < x) then 1 else 0) else 5) := rfl
  have hbad : ∀ e : Nat, formD (.mk k z l x y) = e → e ≠ 0 → K (.int .i64 (e : Int)) ro (.blk p 3 [.int .i64 (M - 1)] :: r) := fun e h1 h2 => by
    rw [h1, if_pos h2] at hk; exact hk
  have hgood : formD (.mk k z l x y) = 0 → K (.int .i64 ((checkK l (M - 1)).1 : Int)) ro (.blk p 3 [.int .i64 (checkK l (M - 1)).2] :: r) := fun h1 => by
    rw [h1, if_neg (by decide)] at hk
    by_cases h12 : k = 1 ∨ k = 2
    · rw [if_pos h12] at hk
      have : l = [] := by
        by_cases hl : l = []
        · exact hl
        · rw [hformD, if_pos h12, if_pos hl] at h1; cases h1
      subst this
      rw [checkK]; exact hk
    · rw [if_neg h12] at hk; exact hk
  clear hk
  have hle0 : l ≠ [] ↔ 0 < l.length := List.length_pos_iff.symm
  by_cases h1 : k = 1
  · subst h1
    rw [if_pos (.inl rfl)] at hformD
    by_cases hl0 : l ≠ []
    · rw [if_pos hl0] at hformD
      have hk := hbad _ hformD (by decide)
      have := hle0.1 hl0
      refine CallOk.intro (args := [_, _, _]) (rs := [_]) T_ok Try.func19 Try.call19 rfl rfl (by kernel_rfl) rfl rfl ?_
      repeat (first
        | (show _ ∧ _; exact ⟨rfl, rfl, rfl⟩)
        | refine wkP ?_
        | (show OpOk _ _ _ _ _ _ _; first | refine opB (fun b => ?_) | refine opA (fun a' c' hc1 hc2 => ?_))
        | (show GJ _ _ _ _ _ _ _; first | (apply GJ.and; exact rfl; intro hg) | (apply GJ.or; exact rfl; intro hg)))
      exact Wk.outS Sup.auto (.refl _) hk
    · rw [if_neg hl0, if_neg (fun x => absurd x.1 (by decide))] at hformD
      have hk := hgood hformD
      have hl0 : ¬ 0 < l.length := fun h => hl0 (hle0.2 h)
      refine CallOk.intro (args := [_, _, _]) (rs := [_]) T_ok Try.func19 Try.call19 rfl rfl (by kernel_rfl) rfl rfl ?_
      repeat (first
        | (show _ ∧ _; exact ⟨rfl, rfl, rfl⟩)
        | refine wkP ?_
        | (show OpOk _ _ _ _ _ _ _; first | refine opB (fun b => ?_) | refine opA (fun a' c' hc1 hc2 => ?_))
        | (show GJ _ _ _ _ _ _ _; first | (apply GJ.and; exact rfl; intro hg) | (apply GJ.or; exact rfl; intro hg)))
      refine LoopOk.at (ι := Nat × Int) Keep.auto (fun (i, Mi) => [(75, .int .i64 (i : Int))]) (fun (i, Mi) => .blk p 3 [.int .i64 Mi] :: r) (fun (i, Mi) => i ≤ l.length ∧ checkK l (M - 1) = checkK (l.drop i) Mi) (fun (i, Mi) => l.length - i) (0, M - 1) ?_ Sub.auto Sup.auto ?_
      · exact ⟨Nat.zero_le _, by simp⟩
      rintro ⟨i, Mi⟩ ⟨i1, i4⟩
      dsimp only [List.cons_append, List.nil_append] at i1 i4 ⊢
      obtain rfl : i = l.length := by omega
      rw [List.drop_length, checkK] at i4
      rw [i4] at hk
      repeat (first
        | (show _ ∧ _; exact ⟨rfl, rfl, rfl⟩)
        | refine wkP ?_
        | (show OpOk _ _ _ _ _ _ _; first | refine opB (fun b => ?_) | refine opA (fun a' c' hc1 hc2 => ?_))
        | (show GJ _ _ _ _ _ _ _; first | (apply GJ.and; exact rfl; intro hg) | (apply GJ.or; exact rfl; intro hg)))
      exact Wk.outS Sup.auto (.refl _) hk
  by_cases h2 : k = 2
  · subst h2
    rw [if_pos (.inr rfl)] at hformD
    by_cases hl0 : l ≠ []
    · rw [if_pos hl0] at hformD
      have hk := hbad _ hformD (by decide)
      have := hle0.1 hl0
      refine CallOk.intro (args := [_, _, _]) (rs := [_]) T_ok Try.func19 Try.call19 rfl rfl (by kernel_rfl) rfl rfl ?_
      repeat (first
        | (show _ ∧ _; exact ⟨rfl, rfl, rfl⟩)
        | refine wkP ?_
        | (show OpOk _ _ _ _ _ _ _; first | refine opB (fun b => ?_) | refine opA (fun a' c' hc1 hc2 => ?_))
        | (show GJ _ _ _ _ _ _ _; first | (apply GJ.and; exact rfl; intro hg) | (apply GJ.or; exact rfl; intro hg)))
      exact Wk.outS Sup.auto (.refl _) hk
    · rw [if_neg hl0] at hformD
      have hl0' : ¬ 0 < l.length := fun h => hl0 (hle0.2 h)
      by_cases hz : z = zeroS
      · rw [if_pos ⟨rfl, hz⟩] at hformD
        have hk := hbad _ hformD (by decide)
        refine CallOk.intro (args := [_, _, _]) (rs := [_]) T_ok Try.func19 Try.call19 rfl rfl (by kernel_rfl) rfl rfl ?_
        repeat (first
          | (show _ ∧ _; exact ⟨rfl, rfl, rfl⟩)
          | refine wkP ?_
          | (show OpOk _ _ _ _ _ _ _; first | refine opB (fun b => ?_) | refine opA (fun a' c' hc1 hc2 => ?_))
          | (show GJ _ _ _ _ _ _ _; first | (apply GJ.and; exact rfl; intro hg) | (apply GJ.or; exact rfl; intro hg)))
        refine check_ok ?_
        rw [if_pos (show z = ⟨0, 0, 0, 0⟩ from hz)]
        repeat (first
          | (show _ ∧ _; exact ⟨rfl, rfl, rfl⟩)
          | refine wkP ?_
          | (show OpOk _ _ _ _ _ _ _; first | refine opB (fun b => ?_) | refine opA (fun a' c' hc1 hc2 => ?_))
          | (show GJ _ _ _ _ _ _ _; first | (apply GJ.and; exact rfl; intro hg) | (apply GJ.or; exact rfl; intro hg)))
        exact Wk.outS Sup.auto (.refl _) hk
      · rw [if_neg (fun x => hz x.2)] at hformD
        have hk := hgood hformD
        have hl0 := Decidable.of_not_not hl0
        rw [hl0, checkK] at hk
        refine CallOk.intro (args := [_, _, _]) (rs := [_]) T_ok Try.func19 Try.call19 rfl rfl (by kernel_rfl) rfl rfl ?_
        repeat (first
          | (show _ ∧ _; exact ⟨rfl, rfl, rfl⟩)
          | refine wkP ?_
          | (show OpOk _ _ _ _ _ _ _; first | refine opB (fun b => ?_) | refine opA (fun a' c' hc1 hc2 => ?_))
          | (show GJ _ _ _ _ _ _ _; first | (apply GJ.and; exact rfl; intro hg) | (apply GJ.or; exact rfl; intro hg)))
        refine check_ok ?_
        rw [if_neg (show ¬ z = ⟨0, 0, 0, 0⟩ from hz)]
        repeat (first
          | (show _ ∧ _; exact ⟨rfl, rfl, rfl⟩)
          | refine wkP ?_
          | (show OpOk _ _ _ _ _ _ _; first | refine opB (fun b => ?_) | refine opA (fun a' c' hc1 hc2 => ?_))
          | (show GJ _ _ _ _ _ _ _; first | (apply GJ.and; exact rfl; intro hg) | (apply GJ.or; exact rfl; intro hg)))
        exact Wk.outS Sup.auto (.refl _) hk
  rw [if_neg (by omega)] at hformD
  by_cases h34 : k = 3 ∨ k = 4
  · rw [if_pos h34] at hformD
    by_cases hl2 : l.length < 2
    · rw [if_pos hl2] at hformD
      have hk := hbad _ hformD (by decide)
      rcases h34 with rfl | rfl
      all_goals
        refine CallOk.intro (args := [_, _, _]) (rs := [_]) T_ok Try.func19 Try.call19 rfl rfl (by kernel_rfl) rfl rfl ?_
        repeat (first
          | (show _ ∧ _; exact ⟨rfl, rfl, rfl⟩)
          | refine wkP ?_
          | (show OpOk _ _ _ _ _ _ _; first | refine opB (fun b => ?_) | refine opA (fun a' c' hc1 hc2 => ?_))
          | (show GJ _ _ _ _ _ _ _; first | (apply GJ.and; exact rfl; intro hg) | (apply GJ.or; exact rfl; intro hg)))
        exact Wk.outS Sup.auto (.refl _) hk
    · rw [if_neg hl2] at hformD
      have hk := hgood hformD
      rcases h34 with rfl | rfl
      all_goals
        refine CallOk.intro (args := [_, _, _]) (rs := [_]) T_ok Try.func19 Try.call19 rfl rfl (by kernel_rfl) rfl rfl ?_
        repeat (first
          | (show _ ∧ _; exact ⟨rfl, rfl, rfl⟩)
          | refine wkP ?_
          | (show OpOk _ _ _ _ _ _ _; first | refine opB (fun b => ?_) | refine opA (fun a' c' hc1 hc2 => ?_))
          | (show GJ _ _ _ _ _ _ _; first | (apply GJ.and; exact rfl; intro hg) | (apply GJ.or; exact rfl; intro hg)))
        refine LoopOk.at (ι := Nat × Int) Keep.auto (fun (i, Mi) => [(75, .int .i64 (i : Int))]) (fun (i, Mi) => .blk p 3 [.int .i64 Mi] :: r) (fun (i, Mi) => i ≤ l.length ∧ 0 ≤ Mi ∧ Mi ≤ M - 1 ∧ checkK l (M - 1) = checkK (l.drop i) Mi) (fun (i, Mi) => l.length - i) (0, M - 1) ?_ Sub.auto Sup.auto ?_
        · exact ⟨Nat.zero_le _, by omega, Int.le_refl _, by simp⟩
        rintro ⟨i, Mi⟩ ⟨i1, i2, i3, i4⟩
        dsimp only [List.cons_append, List.nil_append] at i1 i2 i3 i4 ⊢
        by_cases hi : i < l.length
        · obtain ⟨kd, hkd⟩ : ∃ kd, l[i]? = some kd := ⟨_, List.getElem?_eq_getElem hi⟩
          have hvv := hks.get hkd
          obtain ⟨ak, ck, hvk⟩ := hvv.cells
          rw [hvk] at hvv
          have hdr : l.drop i = kd :: l.drop (i + 1) := by
            rw [List.drop_eq_getElem_cons hi]
            congr 1
            rw [List.getElem?_eq_getElem hi] at hkd
            exact Option.some.inj hkd
          rw [hdr, checkK] at i4
          have hleft := check_left kd Mi
          repeat (first
            | (show _ ∧ _; exact ⟨rfl, rfl, rfl⟩)
            | refine wkP ?_
            | (show OpOk _ _ _ _ _ _ _; first | refine opB (fun b => ?_) | refine opA (fun a' c' hc1 hc2 => ?_))
            | (show GJ _ _ _ _ _ _ _; first | (apply GJ.and; exact rfl; intro hg) | (apply GJ.or; exact rfl; intro hg)))
          rw [Int.toNat_natCast]
          refine OpOk.loadRow rfl rfl (LdN.at hrs hvk) rfl ?_
          repeat (first
            | (show _ ∧ _; exact ⟨rfl, rfl, rfl⟩)
            | refine wkP ?_
            | (show OpOk _ _ _ _ _ _ _; first | refine opB (fun b => ?_) | refine opA (fun a' c' hc1 hc2 => ?_))
            | (show GJ _ _ _ _ _ _ _; first | (apply GJ.and; exact rfl; intro hg) | (apply GJ.or; exact rfl; intro hg)))
          refine CallOk.sup (own0 := .blk p 3 [.int .i64 Mi] :: r) Sup.auto ?_
          refine (ih kd (List.mem_of_getElem? hkd)).run hvv i2 (by omega) (by omega) (by omega) ?_
          generalize checkD kd Mi = R at i4 hleft ⊢
          obtain ⟨R1, R2⟩ := R
          dsimp only at i4 hleft ⊢
          by_cases hz : R1 = 0
          · rw [if_neg (by omega)] at i4
            obtain ⟨h5, h6⟩ := hleft hz
            subst hz
            repeat (first
              | (show _ ∧ _; exact ⟨rfl, rfl, rfl⟩)
              | refine wkP ?_
              | (show OpOk _ _ _ _ _ _ _; first | refine opB (fun b => ?_) | refine opA (fun a' c' hc1 hc2 => ?_))
              | (show GJ _ _ _ _ _ _ _; first | (apply GJ.and; exact rfl; intro hg) | (apply GJ.or; exact rfl; intro hg)))
            refine Wk.id ⟨(i + 1, R2), ⟨rfl, ?_⟩, ?_, Sub.auto, Sup.auto⟩
            all_goals try dsimp only
            · exact ⟨by omega, h5, by omega, i4⟩
            · omega
          · rw [if_pos hz] at i4
            rw [i4] at hk
            repeat (first
              | (show _ ∧ _; exact ⟨rfl, rfl, rfl⟩)
              | refine wkP ?_
              | (show OpOk _ _ _ _ _ _ _; first | refine opB (fun b => ?_) | refine opA (fun a' c' hc1 hc2 => ?_))
              | (show GJ _ _ _ _ _ _ _; first | (apply GJ.and; exact rfl; intro hg) | (apply GJ.or; exact rfl; intro hg)))
            exact Wk.outS Sup.auto (.refl _) hk
        · obtain rfl : i = l.length := by omega
          rw [List.drop_length, checkK] at i4
          rw [i4] at hk
          repeat (first
            | (show _ ∧ _; exact ⟨rfl, rfl, rfl⟩)
            | refine wkP ?_
            | (show OpOk _ _ _ _ _ _ _; first | refine opB (fun b => ?_) | refine opA (fun a' c' hc1 hc2 => ?_))
            | (show GJ _ _ _ _ _ _ _; first | (apply GJ.and; exact rfl; intro hg) | (apply GJ.or; exact rfl; intro hg)))
          exact Wk.outS Sup.auto (.refl _) hk
  rw [if_neg h34] at hformD
  by_cases h5 : k = 5
  · subst h5
    rw [if_pos rfl] at hformD
    by_cases hl1 : l.length ≠ 1
    · rw [if_pos hl1] at hformD
      have hk := hbad _ hformD (by decide)
      refine CallOk.intro (args := [_, _, _]) (rs := [_]) T_ok Try.func19 Try.call19 rfl rfl (by kernel_rfl) rfl rfl ?_
      repeat (first
        | (show _ ∧ _; exact ⟨rfl, rfl, rfl⟩)
        | refine wkP ?_
        | (show OpOk _ _ _ _ _ _ _; first | refine opB (fun b => ?_) | refine opA (fun a' c' hc1 hc2 => ?_))
        | (show GJ _ _ _ _ _ _ _; first | (apply GJ.and; exact rfl; intro hg) | (apply GJ.or; exact rfl; intro hg)))
      exact Wk.outS Sup.auto (.refl _) hk
    · rw [if_neg hl1] at hformD
      by_cases hb : x < 0 ∨ 256 < x ∨ 256 < y ∨ (0 ≤ y ∧ y < x)
      · rw [if_pos hb] at hformD
        have hk := hbad _ hformD (by decide)
        rcases hb with hb | hb | hb | hb
        all_goals
          refine CallOk.intro (args := [_, _, _]) (rs := [_]) T_ok Try.func19 Try.call19 rfl rfl (by kernel_rfl) rfl rfl ?_
          repeat (first
            | (show _ ∧ _; exact ⟨rfl, rfl, rfl⟩)
            | refine wkP ?_
            | (show OpOk _ _ _ _ _ _ _; first | refine opB (fun b => ?_) | refine opA (fun a' c' hc1 hc2 => ?_))
            | (show GJ _ _ _ _ _ _ _; first | (apply GJ.and; exact rfl; intro hg) | (apply GJ.or; exact rfl; intro hg)))
          exact Wk.outS Sup.auto (.refl _) hk
      · rw [if_neg hb] at hformD
        have hk := hgood hformD
        refine CallOk.intro (args := [_, _, _]) (rs := [_]) T_ok Try.func19 Try.call19 rfl rfl (by kernel_rfl) rfl rfl ?_
        repeat (first
          | (show _ ∧ _; exact ⟨rfl, rfl, rfl⟩)
          | refine wkP ?_
          | (show OpOk _ _ _ _ _ _ _; first | refine opB (fun b => ?_) | refine opA (fun a' c' hc1 hc2 => ?_))
          | (show GJ _ _ _ _ _ _ _; first | (apply GJ.and; exact rfl; intro hg) | (apply GJ.or; exact rfl; intro hg)))
        refine LoopOk.at (ι := Nat × Int) Keep.auto (fun (i, Mi) => [(75, .int .i64 (i : Int))]) (fun (i, Mi) => .blk p 3 [.int .i64 Mi] :: r) (fun (i, Mi) => i ≤ l.length ∧ 0 ≤ Mi ∧ Mi ≤ M - 1 ∧ checkK l (M - 1) = checkK (l.drop i) Mi) (fun (i, Mi) => l.length - i) (0, M - 1) ?_ Sub.auto Sup.auto ?_
        · exact ⟨Nat.zero_le _, by omega, Int.le_refl _, by simp⟩
        rintro ⟨i, Mi⟩ ⟨i1, i2, i3, i4⟩
        dsimp only [List.cons_append, List.nil_append] at i1 i2 i3 i4 ⊢
        by_cases hi : i < l.length
        · obtain ⟨kd, hkd⟩ : ∃ kd, l[i]? = some kd := ⟨_, List.getElem?_eq_getElem hi⟩
          have hvv := hks.get hkd
          obtain ⟨ak, ck, hvk⟩ := hvv.cells
          rw [hvk] at hvv
          have hdr : l.drop i = kd :: l.drop (i + 1) := by
            rw [List.drop_eq_getElem_cons hi]
            congr 1
            rw [List.getElem?_eq_getElem hi] at hkd
            exact Option.some.inj hkd
          rw [hdr, checkK] at i4
          have hleft := check_left kd Mi
          repeat (first
            | (show _ ∧ _; exact ⟨rfl, rfl, rfl⟩)
            | refine wkP ?_
            | (show OpOk _ _ _ _ _ _ _; first | refine opB (fun b => ?_) | refine opA (fun a' c' hc1 hc2 => ?_))
            | (show GJ _ _ _ _ _ _ _; first | (apply GJ.and; exact rfl; intro hg) | (apply GJ.or; exact rfl; intro hg)))
          rw [Int.toNat_natCast]
          refine OpOk.loadRow rfl rfl (LdN.at hrs hvk) rfl ?_
          repeat (first
            | (show _ ∧ _; exact ⟨rfl, rfl, rfl⟩)
            | refine wkP ?_
            | (show OpOk _ _ _ _ _ _ _; first | refine opB (fun b => ?_) | refine opA (fun a' c' hc1 hc2 => ?_))
            | (show GJ _ _ _ _ _ _ _; first | (apply GJ.and; exact rfl; intro hg) | (apply GJ.or; exact rfl; intro hg)))
          refine CallOk.sup (own0 := .blk p 3 [.int .i64 Mi] :: r) Sup.auto ?_
          refine (ih kd (List.mem_of_getElem? hkd)).run hvv i2 (by omega) (by omega) (by omega) ?_
          generalize checkD kd Mi = R at i4 hleft ⊢
          obtain ⟨R1, R2⟩ := R
          dsimp only at i4 hleft ⊢
          by_cases hz : R1 = 0
          · rw [if_neg (by omega)] at i4
            obtain ⟨h5, h6⟩ := hleft hz
            subst hz
            repeat (first
              | (show _ ∧ _; exact ⟨rfl, rfl, rfl⟩)
              | refine wkP ?_
              | (show OpOk _ _ _ _ _ _ _; first | refine opB (fun b => ?_) | refine opA (fun a' c' hc1 hc2 => ?_))
              | (show GJ _ _ _ _ _ _ _; first | (apply GJ.and; exact rfl; intro hg) | (apply GJ.or; exact rfl; intro hg)))
            refine Wk.id ⟨(i + 1, R2), ⟨rfl, ?_⟩, ?_, Sub.auto, Sup.auto⟩
            all_goals try dsimp only
            · exact ⟨by omega, h5, by omega, i4⟩
            · omega
          · rw [if_pos hz] at i4
            rw [i4] at hk
            repeat (first
              | (show _ ∧ _; exact ⟨rfl, rfl, rfl⟩)
              | refine wkP ?_
              | (show OpOk _ _ _ _ _ _ _; first | refine opB (fun b => ?_) | refine opA (fun a' c' hc1 hc2 => ?_))
              | (show GJ _ _ _ _ _ _ _; first | (apply GJ.and; exact rfl; intro hg) | (apply GJ.or; exact rfl; intro hg)))
            exact Wk.outS Sup.auto (.refl _) hk
        · obtain rfl : i = l.length := by omega
          rw [List.drop_length, checkK] at i4
          rw [i4] at hk
          repeat (first
            | (show _ ∧ _; exact ⟨rfl, rfl, rfl⟩)
            | refine wkP ?_
            | (show OpOk _ _ _ _ _ _ _; first | refine opB (fun b => ?_) | refine opA (fun a' c' hc1 hc2 => ?_))
            | (show GJ _ _ _ _ _ _ _; first | (apply GJ.and; exact rfl; intro hg) | (apply GJ.or; exact rfl; intro hg)))
          exact Wk.outS Sup.auto (.refl _) hk
  · rw [if_neg h5] at hformD
    have hk := hbad _ hformD (by decide)
    refine CallOk.intro (args := [_, _, _]) (rs := [_]) T_ok Try.func19 Try.call19 rfl rfl (by kernel_rfl) rfl rfl ?_
    repeat (first
      | (show _ ∧ _; exact ⟨rfl, rfl, rfl⟩)
      | refine wkP ?_
      | (show OpOk _ _ _ _ _ _ _; first | refine opB (fun b => ?_) | refine opA (fun a' c' hc1 hc2 => ?_))
      | (show GJ _ _ _ _ _ _ _; first | (apply GJ.and; exact rfl; intro hg) | (apply GJ.or; exact rfl; intro hg)))
    exact Wk.outS Sup.auto (.refl _) hk⟩
end Go.Proofs.Ytkpdnpcmeadggaa
