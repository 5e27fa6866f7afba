/- The law ClassTexts. -/
import Derived.Test.YtocliedpgdfkoaaDoorCD
import Derived.Test.YtocliedpgdfkoaaDoorCF
import Derived.Test.YtocliedpgdfkoaaDoorCJ
namespace Go.Proofs.YtocliedpgdfkoaaDoor
open Go Go.E
set_option linter.unusedVariables false
set_option maxRecDepth 10000
theorem setV_eq {s t : SetD} : (((s.a : Int) = (t.a : Int)) ∧ ((s.b : Int) = (t.b : Int)) ∧ ((s.c : Int) = (t.c : Int)) ∧ (s.d : Int) = (t.d : Int)) ↔ s = t := by
  constructor
  · rintro ⟨h1, h2, h3, h4⟩
    cases s; cases t
    rw [SetD.mk.injEq]
    dsimp only at h1 h2 h3 h4
    omega
  · rintro rfl; exact ⟨rfl, rfl, rfl, rfl⟩
theorem nameD_two {c : Nat} (hc : c < 256) : (∃ u : UInt8, nameD c = [u] ∧ u.toNat = c) ∨ ∃ x y, nameD c = [92, 120, x, y] := by
  unfold nameD
  by_cases h : plainC c = true
  · rw [if_pos h]; exact .inl ⟨_, rfl, (signs_has c hc h).2.2.2.2.2⟩
  · rw [if_neg h]; exact .inr ⟨_, _, rfl⟩
section
variable {ro : Ro} {own r : Chs} {K : Value → Ro → Chs → Prop} {g : Chunk → Chs}
set_option maxHeartbeats 2000000 in
theorem ctexts_ok {p q : SetD} {c : Nat} (ht : TabOk ro) (hp : SetIn p) (hq : SetIn q) (hc : c < 256) (hk : K (.bool true) ro own) : CallOk Tryd.prog 5 #[.agg (setV p).toArray, .agg (setV q).toArray, .int .u8 (c : Int)] ro own K := by
  refine CallOk.intro (args := [_, _, _]) (rs := [_]) T_ok Tryd.func5 Tryd.call5 rfl rfl (by kernel_rfl) rfl rfl ?_
  repeat (first
    | (show _ ∧ _; exact ⟨rfl, rfl, rfl⟩)
    | refine wkT ?_
    | (show OpOk _ _ _ _ _ _ _; first | refine opB (fun b => ?_) | refine opA (fun a' c' hc1 hc2 => ?_))
    | (show GJ _ _ _ _ _ _ _; first | (apply GJ.and; exact rfl; intro hg) | (apply GJ.or; exact rfl; intro hg)))
  refine sets_ok ht ?_
  repeat (first
    | (show _ ∧ _; exact ⟨rfl, rfl, rfl⟩)
    | refine wkT ?_
    | refine Bs.all ?_
    | (show OpOk _ _ _ _ _ _ _; first | refine opB (fun b => ?_) | refine opA (fun a' c' hc1 hc2 => ?_))
    | (show GJ _ _ _ _ _ _ _; first | (apply GJ.and; exact rfl; intro hg) | (apply GJ.or; exact rfl; intro hg)))
  refine text_ok ht hp ?_
  repeat (first
    | (show _ ∧ _; exact ⟨rfl, rfl, rfl⟩)
    | refine wkT ?_
    | refine Bs.all ?_
    | (show OpOk _ _ _ _ _ _ _; first | refine opB (fun b => ?_) | refine opA (fun a' c' hc1 hc2 => ?_))
    | (show GJ _ _ _ _ _ _ _; first | (apply GJ.and; exact rfl; intro hg) | (apply GJ.or; exact rfl; intro hg)))
  refine text_ok ht hq ?_
  obtain ⟨tp, htp⟩ : ∃ x, textD p = x := ⟨_, rfl⟩
  obtain ⟨tq, htq⟩ : ∃ x, textD q = x := ⟨_, rfl⟩
  rw [htp, htq]
  repeat (first
    | (show _ ∧ _; exact ⟨rfl, rfl, rfl⟩)
    | refine wkT ?_
    | refine Bs.all ?_
    | (show OpOk _ _ _ _ _ _ _; first | refine opB (fun b => ?_) | refine opA (fun a' c' hc1 hc2 => ?_))
    | (show GJ _ _ _ _ _ _ _; first | (apply GJ.and; exact rfl; intro hg) | (apply GJ.or; exact rfl; intro hg)))
  refine OpOk.eqlArr4 (e := 22) rfl rfl (by kernel_rfl) (by kernel_rfl) (by kernel_rfl) (by kernel_rfl) ?_
  have e1 : decide (((p.a : Int) = (q.a : Int)) ∧ ((p.b : Int) = (q.b : Int)) ∧ ((p.c : Int) = (q.c : Int)) ∧ (p.d : Int) = (q.d : Int)) = decide (tp = tq) := by
    rw [decide_eq_decide, setV_eq, ← htp, ← htq]
    exact ⟨fun e => by rw [e], textD_inj hp hq⟩
  rw [e1]
  have e2 : decide (decide (tp = tq) ≠ decide (tp = tq)) = false := by simp
  repeat (first
    | (show _ ∧ _; exact ⟨rfl, rfl, rfl⟩)
    | refine wkT ?_
    | refine Bs.all ?_
    | (show OpOk _ _ _ _ _ _ _; first | refine opB (fun b => ?_) | refine opA (fun a' c' hc1 hc2 => ?_))
    | (show GJ _ _ _ _ _ _ _; first | (apply GJ.and; exact rfl; intro hg) | (apply GJ.or; exact rfl; intro hg)))
  rw [e2]
  repeat (first
    | (show _ ∧ _; exact ⟨rfl, rfl, rfl⟩)
    | refine wkT ?_
    | refine Bs.all ?_
    | (show OpOk _ _ _ _ _ _ _; first | refine opB (fun b => ?_) | refine opA (fun a' c' hc1 hc2 => ?_))
    | (show GJ _ _ _ _ _ _ _; first | (apply GJ.and; exact rfl; intro hg) | (apply GJ.or; exact rfl; intro hg)))
  refine name_ok (u := UInt8.ofNat c) (by rw [UInt8.toNat_ofNat']; omega) ?_
  have e3 : ∀ u : UInt8, u.toNat = c → decide ((([u] : List UInt8)[Int.toNat 0]!.toNat : Int) ≠ (c : Int)) = false := fun u hu => by
    rw [decide_eq_false_iff_not]
    show ¬ ((u.toNat : Int) ≠ (c : Int))
    omega
  have e5 : ∀ x y : UInt8, (decide (List.take (Int.toNat 2) ([92, 120, x, y] : List UInt8) ≠ [92, 120]) || false) = false := fun x y => by
    rw [Bool.or_false, decide_eq_false_iff_not]
    exact fun h => h rfl
  rcases nameD_two hc with ⟨u, hu, hu2⟩ | ⟨x, y, hu⟩
  all_goals
    rw [hu]
    try have hl1 : ([u] : List UInt8).length = 1 := rfl
    try have hl4 : ([92, 120, x, y] : List UInt8).length = 4 := rfl
    repeat (first
      | (show _ ∧ _; exact ⟨rfl, rfl, rfl⟩)
      | refine wkT ?_
      | refine Bs.all ?_
      | (show OpOk _ _ _ _ _ _ _; first | refine opB (fun b => ?_) | refine opA (fun a' c' hc1 hc2 => ?_))
      | (show GJ _ _ _ _ _ _ _; first | (apply GJ.and; exact rfl; intro hg) | (apply GJ.or; exact rfl; intro hg)))
    try rw [e3 _ hu2]
    try rw [e5]
    repeat (first
      | (show _ ∧ _; exact ⟨rfl, rfl, rfl⟩)
      | refine wkT ?_
      | refine Bs.all ?_
      | (show OpOk _ _ _ _ _ _ _; first | refine opB (fun b => ?_) | refine opA (fun a' c' hc1 hc2 => ?_))
      | (show GJ _ _ _ _ _ _ _; first | (apply GJ.and; exact rfl; intro hg) | (apply GJ.or; exact rfl; intro hg)))
    refine len_ok hp ?_
    rcases textD_three p with ⟨s1, s2⟩ | ⟨d, hd, s1, s2, s5, s3, s4⟩ | ⟨s1, s2, s3⟩
    · have hlen : allD.len = 256 := by decide +kernel
      subst s1
      rw [hlen]
      rw [htp] at s2
      subst s2
      repeat (first
        | (show _ ∧ _; exact ⟨rfl, rfl, rfl⟩)
        | refine wkT ?_
        | refine Bs.all ?_
        | (show OpOk _ _ _ _ _ _ _; first | refine opB (fun b => ?_) | refine opA (fun a' c' hc1 hc2 => ?_))
        | (show GJ _ _ _ _ _ _ _; first | (apply GJ.and; exact rfl; intro hg) | (apply GJ.or; exact rfl; intro hg)))
      refine all_ok ?_
      repeat (first
        | (show _ ∧ _; exact ⟨rfl, rfl, rfl⟩)
        | refine wkT ?_
        | refine Bs.all ?_
        | (show OpOk _ _ _ _ _ _ _; first | refine opB (fun b => ?_) | refine opA (fun a' c' hc1 hc2 => ?_))
        | (show GJ _ _ _ _ _ _ _; first | (apply GJ.and; exact rfl; intro hg) | (apply GJ.or; exact rfl; intro hg)))
      refine QOk.eqlArr4 (e := 22) rfl rfl (by kernel_rfl) (by kernel_rfl) (by kernel_rfl) (by kernel_rfl) ?_
      rw [decide_eq_true (⟨rfl, rfl, rfl, rfl⟩ : _ ∧ _ ∧ _ ∧ _)]
      repeat (first
        | (show _ ∧ _; exact ⟨rfl, rfl, rfl⟩)
        | refine wkT ?_
        | refine Bs.all ?_
        | (show OpOk _ _ _ _ _ _ _; first | refine opB (fun b => ?_) | refine opA (fun a' c' hc1 hc2 => ?_))
        | (show GJ _ _ _ _ _ _ _; first | (apply GJ.and; exact rfl; intro hg) | (apply GJ.or; exact rfl; intro hg)))
      exact Wk.outV Sup.auto hk rfl
    · rw [s1]
      rw [htp] at s4
      repeat (first
        | (show _ ∧ _; exact ⟨rfl, rfl, rfl⟩)
        | refine wkT ?_
        | refine Bs.all ?_
        | (show OpOk _ _ _ _ _ _ _; first | refine opB (fun b => ?_) | refine opA (fun a' c' hc1 hc2 => ?_))
        | (show GJ _ _ _ _ _ _ _; first | (apply GJ.and; exact rfl; intro hg) | (apply GJ.or; exact rfl; intro hg)))
      refine first_ok ht hp (fun h0 => ?_) (fun c1 hc1 h3 h4 => ?_)
      · have := (s3 d hd).2 rfl
        rw [h0, SetD.has_zero] at this
        cases this
      · obtain rfl : c1 = d := (s3 c1 hc1).1 h3
        repeat (first
          | (show _ ∧ _; exact ⟨rfl, rfl, rfl⟩)
          | refine wkT ?_
          | refine Bs.all ?_
          | (show OpOk _ _ _ _ _ _ _; first | refine opB (fun b => ?_) | refine opA (fun a' c' hc1 hc2 => ?_))
          | (show GJ _ _ _ _ _ _ _; first | (apply GJ.and; exact rfl; intro hg) | (apply GJ.or; exact rfl; intro hg)))
        refine name_ok (u := UInt8.ofNat c1) (by rw [UInt8.toNat_ofNat']; omega) ?_
        rw [← s4]
        repeat (first
          | (show _ ∧ _; exact ⟨rfl, rfl, rfl⟩)
          | refine wkT ?_
          | refine Bs.all ?_
          | (show OpOk _ _ _ _ _ _ _; first | refine opB (fun b => ?_) | refine opA (fun a' c' hc1 hc2 => ?_))
          | (show GJ _ _ _ _ _ _ _; first | (apply GJ.and; exact rfl; intro hg) | (apply GJ.or; exact rfl; intro hg)))
        exact Wk.outV Sup.auto hk (by rw [decide_eq_true (rfl : tp = tp)]; rfl)
    · rw [htp] at s3
      have e4 : decide (((p.a : Int) = (allD.a : Int)) ∧ ((p.b : Int) = (allD.b : Int)) ∧ ((p.c : Int) = (allD.c : Int)) ∧ (p.d : Int) = (allD.d : Int)) = false := by
        rw [decide_eq_false_iff_not, setV_eq]; exact s1
      have hml := runsF_len p 256 0
      generalize runsF p 256 0 = m at s3 hml
      have hlm : 2 ≤ tp.length ∧ tp.length ≤ 10000 := by rw [s3]; simp; omega
      have g1 : tp[Int.toNat 0]! = 91 := by rw [s3]; rfl
      have g2 : tp[((tp.length : Int) - 1).toNat]! = 93 := by
        have e : ((tp.length : Int) - 1).toNat = tp.length - 1 := by omega
        have e2 : tp.getLast? = some 93 := by rw [s3, ← List.cons_append, List.getLast?_concat]
        rw [e, List.getElem!_eq_getElem?_getD, ← List.getLast?_eq_getElem?, e2]; rfl
      repeat (first
        | (show _ ∧ _; exact ⟨rfl, rfl, rfl⟩)
        | refine wkT ?_
        | refine Bs.all ?_
        | (show OpOk _ _ _ _ _ _ _; first | refine opB (fun b => ?_) | refine opA (fun a' c' hc1 hc2 => ?_))
        | (show GJ _ _ _ _ _ _ _; first | (apply GJ.and; exact rfl; intro hg) | (apply GJ.or; exact rfl; intro hg)))
      refine all_ok ?_
      repeat (first
        | (show _ ∧ _; exact ⟨rfl, rfl, rfl⟩)
        | refine wkT ?_
        | refine Bs.all ?_
        | (show OpOk _ _ _ _ _ _ _; first | refine opB (fun b => ?_) | refine opA (fun a' c' hc1 hc2 => ?_))
        | (show GJ _ _ _ _ _ _ _; first | (apply GJ.and; exact rfl; intro hg) | (apply GJ.or; exact rfl; intro hg)))
      refine QOk.eqlArr4 (e := 22) rfl rfl (by kernel_rfl) (by kernel_rfl) (by kernel_rfl) (by kernel_rfl) ?_
      rw [e4]
      repeat (first
        | (show _ ∧ _; exact ⟨rfl, rfl, rfl⟩)
        | refine wkT ?_
        | refine Bs.all ?_
        | (show OpOk _ _ _ _ _ _ _; first | refine opB (fun b => ?_) | refine opA (fun a' c' hc1 hc2 => ?_))
        | (show GJ _ _ _ _ _ _ _; first | (apply GJ.and; exact rfl; intro hg) | (apply GJ.or; exact rfl; intro hg)))
      try rw [g1]
      repeat (first
        | (show _ ∧ _; exact ⟨rfl, rfl, rfl⟩)
        | refine wkT ?_
        | refine Bs.all ?_
        | (show OpOk _ _ _ _ _ _ _; first | refine opB (fun b => ?_) | refine opA (fun a' c' hc1 hc2 => ?_))
        | (show GJ _ _ _ _ _ _ _; first | (apply GJ.and; exact rfl; intro hg) | (apply GJ.or; exact rfl; intro hg)))
      rw [g2]
      repeat (first
        | (show _ ∧ _; exact ⟨rfl, rfl, rfl⟩)
        | refine wkT ?_
        | refine Bs.all ?_
        | (show OpOk _ _ _ _ _ _ _; first | refine opB (fun b => ?_) | refine opA (fun a' c' hc1 hc2 => ?_))
        | (show GJ _ _ _ _ _ _ _; first | (apply GJ.and; exact rfl; intro hg) | (apply GJ.or; exact rfl; intro hg)))
      exact Wk.outV Sup.auto hk rfl
theorem ctexts_law {p q : SetD} {z : Int} (ht : TabOk ro) (hp : SetIn p) (hq : SetIn q) (hz : 0 ≤ z ∧ z < 256) (hk : K (.bool true) ro own) : CallOk Tryd.prog 5 #[.agg (setV p).toArray, .agg (setV q).toArray, .int .u8 z] ro own K := by
  obtain ⟨c, rfl⟩ := Int.eq_ofNat_of_zero_le hz.1
  exact ctexts_ok ht hp hq (by omega) hk
end
end Go.Proofs.YtocliedpgdfkoaaDoor
