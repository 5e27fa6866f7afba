/- The law RegexParses. -/
import Derived.Test.YtniofdklhlbphaaDoorRgM
import Derived.Test.YtniofdklhlbphaaDoorRfF
namespace Go.Proofs.YtniofdklhlbphaaDoor
open Go Go.E
set_option linter.unusedVariables false
set_option linter.unusedSimpArgs false
set_option maxRecDepth 10000
theorem refP : ∀ d : Nat, RefP d
  | 0 => fun h => h.elim
  | d + 1 => rfparse_ok (refP d)
section
variable {ro : Ro} {own r : Chs} {K : Value → Ro → Chs → Prop} {g : Chunk → Chs}
theorem rparse_big {t : List UInt8} (h : 512 < t.length) (hl : t.length ≤ 100000000) (hk : K (.tuple #[.agg (nodeV 0 zeroS none 0 0 0 0).toArray, .agg (faultV (2, 0)).toArray]) ro own) :
    CallOk Tryd.prog 27 #[str t] ro own K := by
  refine CallOk.intro (args := [_]) (rs := [_, _]) T_ok Tryd.func27 Tryd.call27 rfl rfl (by kernel_rfl) rfl rfl ?_
  repeat (first
    | (show _ ∧ _; exact ⟨rfl, rfl, rfl⟩)
    | refine wkP ?_
    | (show OpOk _ _ _ _ _ _ _; first | refine opB (fun b => ?_) | refine opA (fun a' c' hc1 hc2 => ?_))
    | (show GJ _ _ _ _ _ _ _; first | (apply GJ.and; exact rfl; intro hg) | (apply GJ.or; exact rfl; intro hg)))
  exact Wk.outS Sup.auto (.refl _) hk
set_option maxHeartbeats 8000000 in
theorem rparses_law {t : List UInt8} (ht : TabOk ro) (hk : K (.bool true) ro own) : CallOk Tryd.prog 7 #[str t] ro own K := by
  refine CallOk.back ?_
  refine CallOk.intro (args := [_]) (rs := [_]) T_ok Tryd.func7 Tryd.call7 rfl rfl (by kernel_rfl) rfl rfl ?_
  repeat (first
    | (show _ ∧ _; exact ⟨rfl, rfl, rfl⟩)
    | refine wkP ?_
    | (show OpOk _ _ _ _ _ _ _; first | refine opB (fun b => ?_) | refine opA (fun a' c' hc1 hc2 => ?_))
    | (show GJ _ _ _ _ _ _ _; first | (apply GJ.and; exact rfl; intro hg) | (apply GJ.or; exact rfl; intro hg)))
  refine reads_ok ht (fun ro1 hl1 => ?_)
  by_cases h1000 : 1000 < t.length
  · repeat (first
      | (show _ ∧ _; exact ⟨rfl, rfl, rfl⟩)
      | refine wkP ?_
      | (show OpOk _ _ _ _ _ _ _; first | refine opB (fun b => ?_) | refine opA (fun a' c' hc1 hc2 => ?_))
      | (show GJ _ _ _ _ _ _ _; first | (apply GJ.and; exact rfl; intro hg) | (apply GJ.or; exact rfl; intro hg)))
    exact Wk.back1 Sup.auto (.refl _) hk
  repeat (first
    | (show _ ∧ _; exact ⟨rfl, rfl, rfl⟩)
    | refine wkP ?_
    | (show OpOk _ _ _ _ _ _ _; first | refine opB (fun b => ?_) | refine opA (fun a' c' hc1 hc2 => ?_))
    | (show GJ _ _ _ _ _ _ _; first | (apply GJ.and; exact rfl; intro hg) | (apply GJ.or; exact rfl; intro hg)))
  refine rparse_ok (t := t) (by omega) (fun ro2 v hl2 hv => ?_)
  have hpf := parse_fault (t := t)
  have hpo := parse_ok (t := t)
  have hps := parse_sound (t := t)
  have hag := again_law (t := t) hv.ins
  have hin := hv.ins
  obtain ⟨a1, c1, hvc⟩ := hv.cells
  generalize (parseD t).1 = n at *
  generalize (parseD t).2 = fl at *
  obtain ⟨f1, f2⟩ := fl
  subst hvc
  dsimp only at hpf hpo hps hag
  by_cases h0 : f1 = 0
  · subst h0
    obtain ⟨q1, q2⟩ := hpo rfl
    obtain ⟨p1, p2, p3, p4⟩ := hps rfl
    cases p2
    have hag := hag rfl
    have hck := check_size n 512 q1 (by omega)
    repeat (first
      | (show _ ∧ _; exact ⟨rfl, rfl, rfl⟩)
      | refine wkP ?_
      | (show OpOk _ _ _ _ _ _ _; first | refine opB (fun b => ?_) | refine opA (fun a' c' hc1 hc2 => ?_))
      | (show GJ _ _ _ _ _ _ _; first | (apply GJ.and; exact rfl; intro hg) | (apply GJ.or; exact rfl; intro hg)))
    refine rcheck_ok hv ?_
    rw [hck]
    repeat (first
      | (show _ ∧ _; exact ⟨rfl, rfl, rfl⟩)
      | refine wkP ?_
      | (show OpOk _ _ _ _ _ _ _; first | refine opB (fun b => ?_) | refine opA (fun a' c' hc1 hc2 => ?_))
      | (show GJ _ _ _ _ _ _ _; first | (apply GJ.and; exact rfl; intro hg) | (apply GJ.or; exact rfl; intro hg)))
    refine refP 33 p3 (by omega) (fun ro3 v3 hl3 hv3 => ?_)
    have hv' := hv.le hl3
    obtain ⟨a3, c3, hvc3⟩ := hv3.cells
    subst hvc3
    repeat (first
      | (show _ ∧ _; exact ⟨rfl, rfl, rfl⟩)
      | refine wkP ?_
      | (show OpOk _ _ _ _ _ _ _; first | refine opB (fun b => ?_) | refine opA (fun a' c' hc1 hc2 => ?_))
      | (show GJ _ _ _ _ _ _ _; first | (apply GJ.and; exact rfl; intro hg) | (apply GJ.or; exact rfl; intro hg)))
    refine (smC n).run hv' hv3 ?_
    rw [same_refl]
    repeat (first
      | (show _ ∧ _; exact ⟨rfl, rfl, rfl⟩)
      | refine wkP ?_
      | (show OpOk _ _ _ _ _ _ _; first | refine opB (fun b => ?_) | refine opA (fun a' c' hc1 hc2 => ?_))
      | (show GJ _ _ _ _ _ _ _; first | (apply GJ.and; exact rfl; intro hg) | (apply GJ.or; exact rfl; intro hg)))
    refine rtext_ok (((ht.le hl1).le hl2).le hl3) q1 hv' (by omega) ?_
    have htl := write_len n false
    have htl : (textR n).length + 1 ≤ 2400 * sizeD n := htl
    have hsn := norm_same n
    generalize textR n = tx at hag htl ⊢
    by_cases h5 : 512 < tx.length
    · repeat (first
        | (show _ ∧ _; exact ⟨rfl, rfl, rfl⟩)
        | refine wkP ?_
        | (show OpOk _ _ _ _ _ _ _; first | refine opB (fun b => ?_) | refine opA (fun a' c' hc1 hc2 => ?_))
        | (show GJ _ _ _ _ _ _ _; first | (apply GJ.and; exact rfl; intro hg) | (apply GJ.or; exact rfl; intro hg)))
      refine rparse_big h5 (by omega) ?_
      repeat (first
        | (show _ ∧ _; exact ⟨rfl, rfl, rfl⟩)
        | refine wkP ?_
        | (show OpOk _ _ _ _ _ _ _; first | refine opB (fun b => ?_) | refine opA (fun a' c' hc1 hc2 => ?_))
        | (show GJ _ _ _ _ _ _ _; first | (apply GJ.and; exact rfl; intro hg) | (apply GJ.or; exact rfl; intro hg)))
      refine Wk.backB ?_ Sup.auto (.refl _) hk
      rfl
    · repeat (first
        | (show _ ∧ _; exact ⟨rfl, rfl, rfl⟩)
        | refine wkP ?_
        | (show OpOk _ _ _ _ _ _ _; first | refine opB (fun b => ?_) | refine opA (fun a' c' hc1 hc2 => ?_))
        | (show GJ _ _ _ _ _ _ _; first | (apply GJ.and; exact rfl; intro hg) | (apply GJ.or; exact rfl; intro hg)))
      refine rparse_ok (t := tx) (by omega) (fun ro4 v4 hl4 hv4 => ?_)
      rw [hag (by omega)] at hv4 ⊢
      obtain ⟨a4, c4, hvc4⟩ := hv4.cells
      dsimp only at hv4 hvc4 ⊢
      subst hvc4
      repeat (first
        | (show _ ∧ _; exact ⟨rfl, rfl, rfl⟩)
        | refine wkP ?_
        | (show OpOk _ _ _ _ _ _ _; first | refine opB (fun b => ?_) | refine opA (fun a' c' hc1 hc2 => ?_))
        | (show GJ _ _ _ _ _ _ _; first | (apply GJ.and; exact rfl; intro hg) | (apply GJ.or; exact rfl; intro hg)))
      refine (smC n).run (hv'.le hl4) hv4 ?_
      rw [hsn]
      repeat (first
        | (show _ ∧ _; exact ⟨rfl, rfl, rfl⟩)
        | refine wkP ?_
        | (show OpOk _ _ _ _ _ _ _; first | refine opB (fun b => ?_) | refine opA (fun a' c' hc1 hc2 => ?_))
        | (show GJ _ _ _ _ _ _ _; first | (apply GJ.and; exact rfl; intro hg) | (apply GJ.or; exact rfl; intro hg)))
      refine Wk.backB ?_ Sup.auto (.refl _) hk
      all_goals simp
  · obtain ⟨p1, p2, p3, p4⟩ := hpf h0
    subst p3
    rcases p1 with rfl | rfl | rfl | rfl | rfl
    · by_cases h5 : 512 < t.length
      · cases p4 h5
      · repeat (first
          | (show _ ∧ _; exact ⟨rfl, rfl, rfl⟩)
          | refine wkP ?_
          | (show OpOk _ _ _ _ _ _ _; first | refine opB (fun b => ?_) | refine opA (fun a' c' hc1 hc2 => ?_))
          | (show GJ _ _ _ _ _ _ _; first | (apply GJ.and; exact rfl; intro hg) | (apply GJ.or; exact rfl; intro hg)))
        refine Wk.backB ?_ Sup.auto (.refl _) hk
        all_goals simp
    · by_cases h5 : 512 < t.length
      · cases p4 h5
        repeat (first
          | (show _ ∧ _; exact ⟨rfl, rfl, rfl⟩)
          | refine wkP ?_
          | (show OpOk _ _ _ _ _ _ _; first | refine opB (fun b => ?_) | refine opA (fun a' c' hc1 hc2 => ?_))
          | (show GJ _ _ _ _ _ _ _; first | (apply GJ.and; exact rfl; intro hg) | (apply GJ.or; exact rfl; intro hg)))
        refine OpOk.eqlStruct (xs := [.int .i64 2, .int .i64 0]) (ys := [.int .i64 2, .int .i64 0]) (q := decide ((2 : Int) = 2) && (decide ((0 : Int) = 0) && true)) rfl rfl rfl rfl (by kernel_rfl) (by kernel_rfl) (by kernel_rfl) ?_
        repeat (first
          | (show _ ∧ _; exact ⟨rfl, rfl, rfl⟩)
          | refine wkP ?_
          | (show OpOk _ _ _ _ _ _ _; first | refine opB (fun b => ?_) | refine opA (fun a' c' hc1 hc2 => ?_))
          | (show GJ _ _ _ _ _ _ _; first | (apply GJ.and; exact rfl; intro hg) | (apply GJ.or; exact rfl; intro hg)))
        refine Wk.backB ?_ Sup.auto (.refl _) hk
        all_goals simp
      · repeat (first
          | (show _ ∧ _; exact ⟨rfl, rfl, rfl⟩)
          | refine wkP ?_
          | (show OpOk _ _ _ _ _ _ _; first | refine opB (fun b => ?_) | refine opA (fun a' c' hc1 hc2 => ?_))
          | (show GJ _ _ _ _ _ _ _; first | (apply GJ.and; exact rfl; intro hg) | (apply GJ.or; exact rfl; intro hg)))
        refine Wk.backB ?_ Sup.auto (.refl _) hk
        all_goals simp
    · by_cases h5 : 512 < t.length
      · cases p4 h5
      · repeat (first
          | (show _ ∧ _; exact ⟨rfl, rfl, rfl⟩)
          | refine wkP ?_
          | (show OpOk _ _ _ _ _ _ _; first | refine opB (fun b => ?_) | refine opA (fun a' c' hc1 hc2 => ?_))
          | (show GJ _ _ _ _ _ _ _; first | (apply GJ.and; exact rfl; intro hg) | (apply GJ.or; exact rfl; intro hg)))
        refine Wk.backB ?_ Sup.auto (.refl _) hk
        all_goals simp
    · by_cases h5 : 512 < t.length
      · cases p4 h5
      · repeat (first
          | (show _ ∧ _; exact ⟨rfl, rfl, rfl⟩)
          | refine wkP ?_
          | (show OpOk _ _ _ _ _ _ _; first | refine opB (fun b => ?_) | refine opA (fun a' c' hc1 hc2 => ?_))
          | (show GJ _ _ _ _ _ _ _; first | (apply GJ.and; exact rfl; intro hg) | (apply GJ.or; exact rfl; intro hg)))
        refine Wk.backB ?_ Sup.auto (.refl _) hk
        all_goals simp
    · by_cases h5 : 512 < t.length
      · cases p4 h5
      · repeat (first
          | (show _ ∧ _; exact ⟨rfl, rfl, rfl⟩)
          | refine wkP ?_
          | (show OpOk _ _ _ _ _ _ _; first | refine opB (fun b => ?_) | refine opA (fun a' c' hc1 hc2 => ?_))
          | (show GJ _ _ _ _ _ _ _; first | (apply GJ.and; exact rfl; intro hg) | (apply GJ.or; exact rfl; intro hg)))
        refine Wk.backB ?_ Sup.auto (.refl _) hk
        all_goals simp
end
end Go.Proofs.YtniofdklhlbphaaDoor
