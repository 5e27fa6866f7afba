/- Contracts of regex: Parse. -/
import Derived.Test.YtkpdnpcmeadggaaRg9
namespace Go.Proofs.Ytkpdnpcmeadggaa
open Go Go.E
set_option linter.unusedVariables false
set_option linter.unusedSimpArgs false
set_option maxRecDepth 10000
def faultV (p : Nat × Nat) : List Value := [.int .i64 (p.1 : Int), .int .i64 (p.2 : Int)]
section
variable {ro : Ro} {own r : Chs} {K : Value → Ro → Chs → Prop} {g : Chunk → Chs} {q : Nat} {t : List UInt8}
set_option maxHeartbeats 8000000 in
theorem rparse_ok (hl : t.length ≤ 1000000) (hk : ∀ ro' v, Le ro ro' → RgOk ro' (parseD t).1 v → K (.tuple #[.agg v.toArray, .agg (faultV (parseD t).2).toArray]) ro' own) :
    CallOk Try.prog 17 #[str t] ro own K := by
  unfold parseD at hk
  by_cases h512 : 512 < t.length
  · rw [if_pos h512] at hk
    refine CallOk.intro (args := [_]) (rs := [_, _]) T_ok Try.func17 Try.call17 rfl rfl (by kernel_rfl) rfl rfl ?_
    repeat (first
      | (show _ ∧ _; exact ⟨rfl, rfl, rfl⟩)
      | refine wkP ?_
      | (show OpOk _ _ _ _ _ _ _; first | refine opB (fun b => ?_) | refine opA (fun a' c' hc1 hc2 => ?_))
      | (show GJ _ _ _ _ _ _ _; first | (apply GJ.and; exact rfl; intro hg) | (apply GJ.or; exact rfl; intro hg)))
    exact Wk.outS Sup.auto (.refl _) (hk ro _ (.refl _) (RgOk.leaf zeroS_in))
  · rw [if_neg h512] at hk
    have hi : Inv t ⟨0, 0, 0, 0⟩ := ⟨fun _ => Nat.zero_le _, Nat.zero_le _, Nat.zero_le _, .inl rfl⟩
    refine CallOk.intro (args := [_]) (rs := [_, _]) T_ok Try.func17 Try.call17 rfl rfl (by kernel_rfl) rfl rfl ?_
    repeat (first
      | (show _ ∧ _; exact ⟨rfl, rfl, rfl⟩)
      | refine wkP ?_
      | (show OpOk _ _ _ _ _ _ _; first | refine opB (fun b => ?_) | refine opA (fun a' c' hc1 hc2 => ?_))
      | (show GJ _ _ _ _ _ _ _; first | (apply GJ.and; exact rfl; intro hg) | (apply GJ.or; exact rfl; intro hg)))
    rename_i b2 b3
    obtain ⟨q, hq⟩ : ∃ z : Nat, z = b := ⟨_, rfl⟩
    subst hq
    have e1 : (.blk q 71 (Value.agg #[str t, .int .i64 0, .int .i64 0, .int .i64 0, .int .i64 0]).cells.toList : Chunk) = .blk q 71 (rsV t ⟨0, 0, 0, 0⟩) := rfl
    rw [e1]
    refine altC (t := t) (by omega) 33 (Nat.le_refl _) (s := ⟨0, 0, 0, 0⟩) inferInstance hi rfl (by decide) (fun ro1 v hl1 hv => ?_)
    have hia : Inv t (altD t 33 ⟨0, 0, 0, 0⟩).2 := Inv.alt hi
    generalize (altD t 33 ⟨0, 0, 0, 0⟩).1 = n at hk hv
    generalize (altD t 33 ⟨0, 0, 0, 0⟩).2 = s at hk hia ⊢
    obtain ⟨a1, c1, hvc⟩ := hv.cells
    subst hvc
    repeat (first
      | (show _ ∧ _; exact ⟨rfl, rfl, rfl⟩)
      | refine wkP ?_
      | (show OpOk _ _ _ _ _ _ _; first | refine opB (fun b => ?_) | refine opA (fun a' c' hc1 hc2 => ?_))
      | (show GJ _ _ _ _ _ _ _; first | (apply GJ.and; exact rfl; intro hg) | (apply GJ.or; exact rfl; intro hg)))
    refine rok_ok (t := t) (s := s) ?_
    have hbad : ∀ s2 : RS, s2.e ≠ 0 → endS t s = s2 → K (.tuple #[.agg (nodeV 0 zeroS none 0 0 0 0).toArray, .agg #[.int .i64 (s2.e : Int), .int .i64 (s2.f : Int)]]) ro1 own := fun s2 h2 h3 => by
      rw [h3, if_neg h2] at hk
      exact hk ro1 _ hl1 (RgOk.leaf zeroS_in)
    by_cases he : s.e = 0
    · rw [decide_eq_true (show (s.e : Int) = 0 by omega)]
      have hp := hia.p0 he
      by_cases hlt : s.p < t.length
      · have hE : endS t s = s.wrong 5 s.p := by unfold endS; rw [if_pos ⟨he, hlt⟩]
        have hb2 := hbad _ (wrong_ne (by decide)) hE
        have hne := wrong_ne (s := s) (e := 5) (f := s.p) (by decide)
        repeat (first
          | (show _ ∧ _; exact ⟨rfl, rfl, rfl⟩)
          | refine wkP ?_
          | (show OpOk _ _ _ _ _ _ _; first | refine opB (fun b => ?_) | refine opA (fun a' c' hc1 hc2 => ?_))
          | (show GJ _ _ _ _ _ _ _; first | (apply GJ.and; exact rfl; intro hg) | (apply GJ.or; exact rfl; intro hg)))
        refine rwrong_ok (t := t) (s := s) 5 s.p rfl rfl ?_
        generalize s.wrong 5 s.p = s2 at hb2 hne ⊢
        repeat (first
          | (show _ ∧ _; exact ⟨rfl, rfl, rfl⟩)
          | refine wkP ?_
          | (show OpOk _ _ _ _ _ _ _; first | refine opB (fun b => ?_) | refine opA (fun a' c' hc1 hc2 => ?_))
          | (show GJ _ _ _ _ _ _ _; first | (apply GJ.and; exact rfl; intro hg) | (apply GJ.or; exact rfl; intro hg)))
        refine rok_ok (t := t) (s := s2) ?_
        rw [decide_eq_false (show ¬ (s2.e : Int) = 0 by omega)]
        repeat (first
          | (show _ ∧ _; exact ⟨rfl, rfl, rfl⟩)
          | refine wkP ?_
          | (show OpOk _ _ _ _ _ _ _; first | refine opB (fun b => ?_) | refine opA (fun a' c' hc1 hc2 => ?_))
          | (show GJ _ _ _ _ _ _ _; first | (apply GJ.and; exact rfl; intro hg) | (apply GJ.or; exact rfl; intro hg)))
        exact Wk.outS Sup.auto (.refl _) hb2
      · have hE : endS t s = s := by unfold endS; rw [if_neg (fun x => hlt x.2)]
        rw [hE, if_pos he] at hk
        repeat (first
          | (show _ ∧ _; exact ⟨rfl, rfl, rfl⟩)
          | refine wkP ?_
          | (show OpOk _ _ _ _ _ _ _; first | refine opB (fun b => ?_) | refine opA (fun a' c' hc1 hc2 => ?_))
          | (show GJ _ _ _ _ _ _ _; first | (apply GJ.and; exact rfl; intro hg) | (apply GJ.or; exact rfl; intro hg)))
        refine rok_ok (t := t) (s := s) ?_
        rw [decide_eq_true (show (s.e : Int) = 0 by omega)]
        repeat (first
          | (show _ ∧ _; exact ⟨rfl, rfl, rfl⟩)
          | refine wkP ?_
          | (show OpOk _ _ _ _ _ _ _; first | refine opB (fun b => ?_) | refine opA (fun a' c' hc1 hc2 => ?_))
          | (show GJ _ _ _ _ _ _ _; first | (apply GJ.and; exact rfl; intro hg) | (apply GJ.or; exact rfl; intro hg)))
        exact Wk.outS Sup.auto (.refl _) (hk ro1 _ hl1 hv)
    · have hE : endS t s = s := end_keep he
      have hb2 := hbad _ he hE
      rw [decide_eq_false (show ¬ (s.e : Int) = 0 by omega)]
      repeat (first
        | (show _ ∧ _; exact ⟨rfl, rfl, rfl⟩)
        | refine wkP ?_
        | (show OpOk _ _ _ _ _ _ _; first | refine opB (fun b => ?_) | refine opA (fun a' c' hc1 hc2 => ?_))
        | (show GJ _ _ _ _ _ _ _; first | (apply GJ.and; exact rfl; intro hg) | (apply GJ.or; exact rfl; intro hg)))
      refine rok_ok (t := t) (s := s) ?_
      rw [decide_eq_false (show ¬ (s.e : Int) = 0 by omega)]
      repeat (first
        | (show _ ∧ _; exact ⟨rfl, rfl, rfl⟩)
        | refine wkP ?_
        | (show OpOk _ _ _ _ _ _ _; first | refine opB (fun b => ?_) | refine opA (fun a' c' hc1 hc2 => ?_))
        | (show GJ _ _ _ _ _ _ _; first | (apply GJ.and; exact rfl; intro hg) | (apply GJ.or; exact rfl; intro hg)))
      exact Wk.outS Sup.auto (.refl _) hb2
end
end Go.Proofs.Ytkpdnpcmeadggaa
