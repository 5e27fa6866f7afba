/- The law NfaGreat. -/
import Derived.Test.YtkpdnpcmeadggaaNaQ
namespace Go.Proofs.Ytkpdnpcmeadggaa
open Go Go.E
set_option linter.unusedVariables false
set_option linter.unusedSimpArgs false
set_option maxRecDepth 10000
section
variable {ro : Ro} {own r : Chs} {K : Value → Ro → Chs → Prop} {g : Chunk → Chs}
set_option maxHeartbeats 4000000 in
theorem ngreat_law {n : RgD} {v : List Value} {times : Int} (hv : RgOk ro n v) (hk : K (.bool true) ro own) : CallOk Try.prog 3 #[.agg v.toArray, .int .i64 times] ro own K := by
  refine CallOk.back ?_
  have hin := rg_ins hv
  obtain ⟨a1, c1, hvc⟩ := hv.cells
  have hv0 := hv
  subst hvc
  have hsz := fewX_size (mn := 6) (mx := 8) n 12
  refine CallOk.intro (args := [_, _]) (rs := [_]) T_ok Try.func3 Try.call3 rfl rfl (by kernel_rfl) rfl rfl ?_
  repeat (first
    | (show _ ∧ _; exact ⟨rfl, rfl, rfl⟩)
    | refine wkP ?_
    | (show OpOk _ _ _ _ _ _ _; first | refine opB (fun b => ?_) | refine opA (fun a' c' hc1 hc2 => ?_))
    | (show GJ _ _ _ _ _ _ _; first | (apply GJ.and; exact rfl; intro hg) | (apply GJ.or; exact rfl; intro hg)))
  refine nruns_ok (fun ro1 hl1 => ?_)
  repeat (first
    | (show _ ∧ _; exact ⟨rfl, rfl, rfl⟩)
    | refine wkP ?_
    | (show OpOk _ _ _ _ _ _ _; first | refine opB (fun b => ?_) | refine opA (fun a' c' hc1 hc2 => ?_))
    | (show GJ _ _ _ _ _ _ _; first | (apply GJ.and; exact rfl; intro hg) | (apply GJ.or; exact rfl; intro hg)))
  refine (fwC n).run (hv0.le hl1) (by decide) (by decide) ?_
  generalize fewX 6 8 n 12 = F at *
  obtain ⟨f1, f2⟩ := F
  dsimp only at hsz ⊢
  cases f1 with
  | false =>
    repeat (first
      | (show _ ∧ _; exact ⟨rfl, rfl, rfl⟩)
      | refine wkP ?_
      | (show OpOk _ _ _ _ _ _ _; first | refine opB (fun b => ?_) | refine opA (fun a' c' hc1 hc2 => ?_))
      | (show GJ _ _ _ _ _ _ _; first | (apply GJ.and; exact rfl; intro hg) | (apply GJ.or; exact rfl; intro hg)))
    exact Wk.back1 Sup.auto (.refl _) hk
  | true =>
    have hsz := hsz rfl
    by_cases ht0 : times < 0
    · repeat (first
        | (show _ ∧ _; exact ⟨rfl, rfl, rfl⟩)
        | refine wkP ?_
        | (show OpOk _ _ _ _ _ _ _; first | refine opB (fun b => ?_) | refine opA (fun a' c' hc1 hc2 => ?_))
        | (show GJ _ _ _ _ _ _ _; first | (apply GJ.and; exact rfl; intro hg) | (apply GJ.or; exact rfl; intro hg)))
      exact Wk.back1 Sup.auto (.refl _) hk
    by_cases ht1 : 256 < times
    · repeat (first
        | (show _ ∧ _; exact ⟨rfl, rfl, rfl⟩)
        | refine wkP ?_
        | (show OpOk _ _ _ _ _ _ _; first | refine opB (fun b => ?_) | refine opA (fun a' c' hc1 hc2 => ?_))
        | (show GJ _ _ _ _ _ _ _; first | (apply GJ.and; exact rfl; intro hg) | (apply GJ.or; exact rfl; intro hg)))
      exact Wk.back1 Sup.auto (.refl _) hk
    obtain ⟨t, rfl⟩ : ∃ t : Nat, times = (t : Int) := ⟨times.toNat, by omega⟩
    repeat (first
      | (show _ ∧ _; exact ⟨rfl, rfl, rfl⟩)
      | refine wkP ?_
      | (show OpOk _ _ _ _ _ _ _; first | refine opB (fun b => ?_) | refine opA (fun a' c' hc1 hc2 => ?_))
      | (show GJ _ _ _ _ _ _ _; first | (apply GJ.and; exact rfl; intro hg) | (apply GJ.or; exact rfl; intro hg)))
    refine rcheck_ok (hv0.le hl1) ?_
    by_cases hc : (checkD n 512).1 = 0
    · have hw := (check_zero n 512 hc).1
      have hc1 : (checkD n 1).1 = (checkD n 1).1 := rfl
      rw [hc]
      repeat (first
        | (show _ ∧ _; exact ⟨rfl, rfl, rfl⟩)
        | refine wkP ?_
        | (show OpOk _ _ _ _ _ _ _; first | refine opB (fun b => ?_) | refine opA (fun a' c' hc1 hc2 => ?_))
        | (show GJ _ _ _ _ _ _ _; first | (apply GJ.and; exact rfl; intro hg) | (apply GJ.or; exact rfl; intro hg)))
      refine nmake_ok (hv0.le hl1) (fun ro2 v2 hl2 hA => ?_)
      have hg := great_law (n := n) hw (by omega) (t := t)
      have hA0 := hA
      have hK := make_k hin
      generalize (makeN n).2 = a at *
      obtain ⟨ad, cp, hs, rfl, hrs, hrw⟩ := hA
      by_cases h1 : (makeN n).1 = 0
      · have hg := hg h1 (by omega)
        rw [h1]
        repeat (first
          | (show _ ∧ _; exact ⟨rfl, rfl, rfl⟩)
          | refine wkP ?_
          | (show OpOk _ _ _ _ _ _ _; first | refine opB (fun b => ?_) | refine opA (fun a' c' hc1 hc2 => ?_))
          | (show GJ _ _ _ _ _ _ _; first | (apply GJ.and; exact rfl; intro hg) | (apply GJ.or; exact rfl; intro hg)))
        refine CallOk.freeze (c := .sl (some ⟨b, 0, none⟩) _ _ _ _ _) Take.auto (fun ro3 hl3 hc3 => ?_)
        have hr3 := Rs.last hc3
        have hv3 := ((hv0.le hl1).le hl2).le hl3
        have hm : RgOk ro3 (repD n (t : Int) (t : Int)) (nodeV 5 zeroS (some ⟨b, 0, none⟩) 1 1 (t : Int) (t : Int)) := by
          rw [repD, RgOk]
          refine ⟨_, 1, _, rfl, SetIn.zero, hr3, ?_⟩
          rw [RgsOk]
          exact ⟨_, [], rfl, hv3, rfl⟩
        refine nmake_ok (n := repD n (t : Int) (t : Int)) (v := nodeV 5 zeroS (some ⟨b, 0, none⟩) 1 1 (t : Int) (t : Int)) hm (fun ro4 v4 hl4 hB => ?_)
        generalize makeN (repD n (t : Int) (t : Int)) = m at *
        obtain ⟨m1, m2⟩ := m
        dsimp only at hB hg ⊢
        have hB0 := hB
        obtain ⟨ad4, cp4, hs4, rfl, hrs4, hrw4⟩ := hB
        have hA4 := (hA0.le hl3).le hl4
        have hLe : a.rows.length ≤ 4096 := hK.ok.le
        have hmul : ((t : Int) + 1) * ((a.rows.length : Int) + 1) = (((t + 1) * (a.rows.length + 1) : Nat) : Int) := by push_cast; rfl
        have hbig : (t + 1) * (a.rows.length + 1) ≤ 257 * 4097 := Nat.mul_le_mul (by omega) (by have := hK.ok.le; omega)
        generalize hP : (t + 1) * (a.rows.length + 1) = P at *
        by_cases h80 : m1 = 80
        · obtain ⟨e1, e2⟩ := hg.1 h80
          subst h80
          have e0 : m2.rows.length = 0 := by rw [e1]; rfl
          repeat (first
            | (show _ ∧ _; exact ⟨rfl, rfl, rfl⟩)
            | refine wkP ?_
            | (show OpOk _ _ _ _ _ _ _; first | refine opB (fun b => ?_) | refine opA (fun a' c' hc1 hc2 => ?_))
            | (show GJ _ _ _ _ _ _ _; first | (apply GJ.and; exact rfl; intro hg) | (apply GJ.or; exact rfl; intro hg)))
          refine nlen_ok hB0 ?_
          repeat (first
            | (show _ ∧ _; exact ⟨rfl, rfl, rfl⟩)
            | refine wkP ?_
            | (show OpOk _ _ _ _ _ _ _; first | refine opB (fun b => ?_) | refine opA (fun a' c' hc1 hc2 => ?_))
            | (show GJ _ _ _ _ _ _ _; first | (apply GJ.and; exact rfl; intro hg) | (apply GJ.or; exact rfl; intro hg)))
          refine nlen_ok hA4 ?_
          repeat (first
            | (show _ ∧ _; exact ⟨rfl, rfl, rfl⟩)
            | refine wkP ?_
            | (show OpOk _ _ _ _ _ _ _; first | refine opB (fun b => ?_) | refine opA (fun a' c' hc1 hc2 => ?_))
            | (show GJ _ _ _ _ _ _ _; first | (apply GJ.and; exact rfl; intro hg) | (apply GJ.or; exact rfl; intro hg)))
          refine Wk.backB ?_ Sup.auto (.refl _) hk
          rw [decide_eq_true_iff, hmul]
          omega
        · obtain ⟨e1, e2⟩ := hg.2 h80
          subst e1
          repeat (first
            | (show _ ∧ _; exact ⟨rfl, rfl, rfl⟩)
            | refine wkP ?_
            | (show OpOk _ _ _ _ _ _ _; first | refine opB (fun b => ?_) | refine opA (fun a' c' hc1 hc2 => ?_))
            | (show GJ _ _ _ _ _ _ _; first | (apply GJ.and; exact rfl; intro hg) | (apply GJ.or; exact rfl; intro hg)))
          refine nlen_ok hB0 ?_
          repeat (first
            | (show _ ∧ _; exact ⟨rfl, rfl, rfl⟩)
            | refine wkP ?_
            | (show OpOk _ _ _ _ _ _ _; first | refine opB (fun b => ?_) | refine opA (fun a' c' hc1 hc2 => ?_))
            | (show GJ _ _ _ _ _ _ _; first | (apply GJ.and; exact rfl; intro hg) | (apply GJ.or; exact rfl; intro hg)))
          refine nlen_ok hA4 ?_
          repeat (first
            | (show _ ∧ _; exact ⟨rfl, rfl, rfl⟩)
            | refine wkP ?_
            | (show OpOk _ _ _ _ _ _ _; first | refine opB (fun b => ?_) | refine opA (fun a' c' hc1 hc2 => ?_))
            | (show GJ _ _ _ _ _ _ _; first | (apply GJ.and; exact rfl; intro hg) | (apply GJ.or; exact rfl; intro hg)))
          refine Wk.backB ?_ Sup.auto (.refl _) hk
          rw [decide_eq_true_iff, hmul]
          omega
      · repeat (first
          | (show _ ∧ _; exact ⟨rfl, rfl, rfl⟩)
          | refine wkP ?_
          | (show OpOk _ _ _ _ _ _ _; first | refine opB (fun b => ?_) | refine opA (fun a' c' hc1 hc2 => ?_))
          | (show GJ _ _ _ _ _ _ _; first | (apply GJ.and; exact rfl; intro hg) | (apply GJ.or; exact rfl; intro hg)))
        exact Wk.back1 Sup.auto (.refl _) hk
    · repeat (first
        | (show _ ∧ _; exact ⟨rfl, rfl, rfl⟩)
        | refine wkP ?_
        | (show OpOk _ _ _ _ _ _ _; first | refine opB (fun b => ?_) | refine opA (fun a' c' hc1 hc2 => ?_))
        | (show GJ _ _ _ _ _ _ _; first | (apply GJ.and; exact rfl; intro hg) | (apply GJ.or; exact rfl; intro hg)))
      exact Wk.back1 Sup.auto (.refl _) hk
end
end Go.Proofs.Ytkpdnpcmeadggaa
