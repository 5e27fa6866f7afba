/- The law NfaSteps. -/
import Derived.Test.YtkpdnpcmeadggaaNaQ
namespace Go.Proofs.Ytkpdnpcmeadggaa
open Go Go.E
set_option linter.unusedVariables false
set_option linter.unusedSimpArgs false
set_option maxRecDepth 10000
theorem reach_none {rows : RowsN} (h : ToIn rows) {list : List Int} (hn : ∀ z : Nat, (z : Int) ∈ list → ¬ z < rows.length) : reachN rows list = [] := by
  refine List.eq_nil_iff_forall_not_mem.2 fun j hj => ?_
  have hr := (reach_iff h j).1 hj
  induction hr with
  | base h1 h2 => exact hn _ h1 h2
  | step h1 h2 ih => exact ih ((reach_iff h _).2 h1)
theorem run_again {a : NfaD} (h : ToIn a.rows) (l : List UInt8) : reachN a.rows (intsN (runN a l)) = runN a l := by
  rcases List.eq_nil_or_concat l with rfl | ⟨m, c, rfl⟩
  · show reachN a.rows (intsN (startN a.rows)) = startN a.rows
    unfold startN
    split
    · exact reach_none h (fun z hz => by simp [intsN] at hz)
    · exact reach_again h _
  · rw [List.concat_eq_append, runN_snoc]
    exact reach_again h _
theorem step_none {a : NfaD} (h : ToIn a.rows) {list : List Int} {c : Nat} (hn : ∀ z ∈ list, z < 0 ∨ (a.rows.length : Int) ≤ z) : stepN a.rows list c = [] := by
  unfold stepN
  have : list.flatMap (byteTo a.rows c) = [] := by
    rw [List.flatMap_eq_nil_iff]
    intro z hz
    unfold byteTo
    rw [if_neg (by have := hn z hz; omega)]
  rw [this]
  exact reach_none h (fun z hz => by cases hz)
section
variable {ro : Ro} {own r : Chs} {K : Value → Ro → Chs → Prop} {g : Chunk → Chs}
theorem nanI_ok {x : Int} (hk : K (.bool false) ro own) : CallOk Try.prog 33 #[.int .i64 x] ro own K := by
  refine CallOk.intro (args := [_]) (rs := [_]) T_ok Try.func33 Try.call33 rfl rfl (by kernel_rfl) rfl rfl ?_
  repeat (first
    | (show _ ∧ _; exact ⟨rfl, rfl, rfl⟩)
    | refine wkP ?_
    | (show OpOk _ _ _ _ _ _ _; first | refine opB (fun b => ?_) | refine opA (fun a' c' hc1 hc2 => ?_))
    | (show GJ _ _ _ _ _ _ _; first | (apply GJ.and; exact rfl; intro hg) | (apply GJ.or; exact rfl; intro hg)))
  exact Wk.val hk (show Value.bool false = Value.bool (decide (x ≠ x)) by simp)
theorem lessI_ok {x y : Int} (hk : K (.bool (decide (x < y))) ro own) : CallOk Try.prog 22 #[.int .i64 x, .int .i64 y] ro own K := by
  refine CallOk.intro (args := [_, _]) (rs := [_]) T_ok Try.func22 Try.call22 rfl rfl (by kernel_rfl) rfl rfl ?_
  repeat (first
    | (show _ ∧ _; exact ⟨rfl, rfl, rfl⟩)
    | refine wkP ?_
    | (show OpOk _ _ _ _ _ _ _; first | refine opB (fun b => ?_) | refine opA (fun a' c' hc1 hc2 => ?_))
    | (show GJ _ _ _ _ _ _ _; first | (apply GJ.and; exact rfl; intro hg) | (apply GJ.or; exact rfl; intro hg)))
  refine nanI_ok ?_
  repeat (first
    | (show _ ∧ _; exact ⟨rfl, rfl, rfl⟩)
    | refine wkP ?_
    | (show OpOk _ _ _ _ _ _ _; first | refine opB (fun b => ?_) | refine opA (fun a' c' hc1 hc2 => ?_))
    | (show GJ _ _ _ _ _ _ _; first | (apply GJ.and; exact rfl; intro hg) | (apply GJ.or; exact rfl; intro hg)))
  exact Wk.id hk
theorem sortedI_ok {a1 : Option Addr} {n1 c1 : Nat} {l : List Nat} (h1 : Rds ro own a1 n1 c1 1 ((intsN l).map (Value.int .i64))) (e1 : l.length = n1) (hs : l.Pairwise (· < ·))
    (hk : K (.bool true) ro own) : CallOk Try.prog 11 #[.slice a1 n1 c1] ro own K := by
  have m1 := h1.max
  have k1 := h1.le
  unfold maxLen at m1
  subst e1
  have hil := ints_len l
  refine CallOk.intro (args := [_]) (rs := [_]) T_ok Try.func11 Try.call11 rfl rfl (by kernel_rfl) rfl rfl ?_
  repeat (first
    | (show _ ∧ _; exact ⟨rfl, rfl, rfl⟩)
    | refine wkP ?_
    | (show OpOk _ _ _ _ _ _ _; first | refine opB (fun b => ?_) | refine opA (fun a' c' hc1 hc2 => ?_))
    | (show GJ _ _ _ _ _ _ _; first | (apply GJ.and; exact rfl; intro hg) | (apply GJ.or; exact rfl; intro hg)))
  refine LoopOk.at (ι := Int) Keep.auto (fun i => [(3, .int .i64 i)]) (fun i => own) (fun i => i < l.length ∧ -1 ≤ i) (fun i => (i + 1).toNat) ((l.length : Int) - 1) ?_ Sub.auto Sup.auto ?_
  · omega
  rintro i ⟨i1, i2⟩
  dsimp only [List.cons_append, List.nil_append] at i1 i2 ⊢
  by_cases hi : 0 < i
  · obtain ⟨k, rfl⟩ : ∃ k : Nat, i = (k : Int) + 1 := ⟨(i - 1).toNat, by omega⟩
    obtain ⟨x, hx⟩ : ∃ x, l[k]? = some x := ⟨_, List.getElem?_eq_getElem (by omega)⟩
    obtain ⟨y, hy⟩ : ∃ y, l[k + 1]? = some y := ⟨_, List.getElem?_eq_getElem (by omega)⟩
    have hxy : x < y := by
      obtain ⟨g1, g2⟩ := List.getElem?_eq_some_iff.1 hx
      obtain ⟨g3, g4⟩ := List.getElem?_eq_some_iff.1 hy
      rw [← g2, ← g4]
      exact List.pairwise_iff_getElem.1 hs k (k + 1) g1 g3 (Nat.lt_succ_self k)
    have hgy : (intsN l)[((k : Int) + 1).toNat]! = (y : Int) := by
      rw [show ((k : Int) + 1).toNat = k + 1 by omega, List.getElem!_eq_getElem?_getD]
      simp [intsN, hy]
    have hgx : (intsN l)[((k : Int) + 1 - 1).toNat]! = (x : Int) := by
      rw [show ((k : Int) + 1 - 1).toNat = k by omega, List.getElem!_eq_getElem?_getD]
      simp [intsN, hx]
    repeat (first
      | (show _ ∧ _; exact ⟨rfl, rfl, rfl⟩)
      | refine wkP ?_
      | (show OpOk _ _ _ _ _ _ _; first | refine opB (fun b => ?_) | refine opA (fun a' c' hc1 hc2 => ?_))
      | (show GJ _ _ _ _ _ _ _; first | (apply GJ.and; exact rfl; intro hg) | (apply GJ.or; exact rfl; intro hg)))
    rw [hgx, hgy]
    refine lessI_ok ?_
    rw [decide_eq_false (by omega)]
    repeat (first
      | (show _ ∧ _; exact ⟨rfl, rfl, rfl⟩)
      | refine wkP ?_
      | (show OpOk _ _ _ _ _ _ _; first | refine opB (fun b => ?_) | refine opA (fun a' c' hc1 hc2 => ?_))
      | (show GJ _ _ _ _ _ _ _; first | (apply GJ.and; exact rfl; intro hg) | (apply GJ.or; exact rfl; intro hg)))
    repeat (first
      | (show _ ∧ _; exact ⟨rfl, rfl, rfl⟩)
      | refine wkP ?_
      | (show OpOk _ _ _ _ _ _ _; first | refine opB (fun b => ?_) | refine opA (fun a' c' hc1 hc2 => ?_))
      | (show GJ _ _ _ _ _ _ _; first | (apply GJ.and; exact rfl; intro hg) | (apply GJ.or; exact rfl; intro hg)))
    refine Wk.id ⟨(k : Int), ⟨rfl, ?_⟩, ?_, Sub.auto, Sup.auto⟩
    all_goals try dsimp only
    · omega
    · omega
  · repeat (first
      | (show _ ∧ _; exact ⟨rfl, rfl, rfl⟩)
      | refine wkP ?_
      | (show OpOk _ _ _ _ _ _ _; first | refine opB (fun b => ?_) | refine opA (fun a' c' hc1 hc2 => ?_))
      | (show GJ _ _ _ _ _ _ _; first | (apply GJ.and; exact rfl; intro hg) | (apply GJ.or; exact rfl; intro hg)))
    exact Wk.id hk
end
end Go.Proofs.Ytkpdnpcmeadggaa
