/- Contracts of regex: write, Text. -/
import Derived.Test.YtniofdklhlbphaaDoorRgC
namespace Go.Proofs.YtniofdklhlbphaaDoor
open Go Go.E
set_option linter.unusedVariables false
set_option linter.unusedSimpArgs false
set_option maxRecDepth 10000
/-- What is asked of the writing of one. -/
structure WrC (n : RgD) : Prop where
  run : ∀ {ro : Ro} {r : Chs} {K : Value → Ro → Chs → Prop} {p c : Nat} {q a : Option Addr} {l : List UInt8} {v : List Value} {x : Int} (w : Bool), x = (if w then 1 else 0) → wrongD n = 0 → TabOk ro → RgOk ro n v → BQ p q → l.length ≤ c → c ≤ maxLen → l.length + (writeD n w).length ≤ 10000000 →
    (∀ q' a' c', BQ p q' → (l ++ writeD n w).length ≤ c' → c' ≤ maxLen → K (.tuple #[]) ro (.blk p 87 [.pointer q', .slice a' (l ++ writeD n w).length c'] :: .sl a' (l ++ writeD n w).length c' 5 1 ((l ++ writeD n w).map u8) :: r)) →
    CallOk Tryd.prog 57 #[ptr' p, .agg v.toArray, .int .i64 x] ro (.blk p 87 [.pointer q, .slice a l.length c] :: .sl a l.length c 5 1 (l.map u8) :: r) K
section
variable {ro : Ro} {own r : Chs} {K : Value → Ro → Chs → Prop} {g : Chunk → Chs} {p c : Nat} {q a : Option Addr} {l : List UInt8} {x : Int}
theorem RgOk.parts {n : RgD} {v : List Value} (h : RgOk ro n v) : ∃ a c cs, v = nodeV n.kind n.set a n.kids.length c n.min n.max ∧ SetIn n.set ∧ Rs ro a n.kids.length c 8 cs ∧ RgsOk ro n.kids cs := by
  obtain ⟨k, z, l, x, y⟩ := n
  rw [RgOk] at h; exact h
set_option maxHeartbeats 4000000 in
theorem write_one {s : SetD} {m y : Int} {ad : Option Addr} {k cp : Nat} (ht : TabOk ro) (hs : SetIn s) (hq : BQ p q) (hc : l.length ≤ c) (hm : c ≤ maxLen) (hl : l.length + (textD s).length ≤ 10000000)
    (hk : ∀ q' a' c', BQ p q' → (l ++ textD s).length ≤ c' → c' ≤ maxLen → K (.tuple #[]) ro (.blk p 87 [.pointer q', .slice a' (l ++ textD s).length c'] :: .sl a' (l ++ textD s).length c' 5 1 ((l ++ textD s).map u8) :: r)) :
    CallOk Tryd.prog 57 #[ptr' p, .agg (nodeV 2 s ad k cp m y).toArray, .int .i64 x] ro (.blk p 87 [.pointer q, .slice a l.length c] :: .sl a l.length c 5 1 (l.map u8) :: r) K := by
  by_cases hx : x > 0
  · refine CallOk.intro (args := [_, _, _]) (rs := []) T_ok Tryd.func57 Tryd.call57 rfl rfl (by kernel_rfl) rfl rfl ?_
    repeat (first
      | (show _ ∧ _; exact ⟨rfl, rfl, rfl⟩)
      | refine wkP ?_
      | (show OpOk _ _ _ _ _ _ _; first | refine opB (fun b => ?_) | refine opA (fun a' c' hc1 hc2 => ?_))
      | (show GJ _ _ _ _ _ _ _; first | (apply GJ.and; exact rfl; intro hg) | (apply GJ.or; exact rfl; intro hg)))
    refine text_ok ht hs ?_
    generalize textD s = tx at hl hk ⊢
    repeat (first
      | (show _ ∧ _; exact ⟨rfl, rfl, rfl⟩)
      | refine wkP ?_
      | (show OpOk _ _ _ _ _ _ _; first | refine opB (fun b => ?_) | refine opA (fun a' c' hc1 hc2 => ?_))
      | (show GJ _ _ _ _ _ _ _; first | (apply GJ.and; exact rfl; intro hg) | (apply GJ.or; exact rfl; intro hg)))
    refine CallOk.sup (own0 := .blk p 87 [.pointer q, .slice a l.length c] :: .sl a l.length c 5 1 (l.map u8) :: r) Sup.auto ?_
    refine wstrL_ok hq rfl ⟨by omega, by omega⟩ (fun a1 c1 h1 h2 => ?_)
    rw [← List.length_append] at h1 ⊢
    repeat (first
      | (show _ ∧ _; exact ⟨rfl, rfl, rfl⟩)
      | refine wkP ?_
      | (show OpOk _ _ _ _ _ _ _; first | refine opB (fun b => ?_) | refine opA (fun a' c' hc1 hc2 => ?_))
      | (show GJ _ _ _ _ _ _ _; first | (apply GJ.and; exact rfl; intro hg) | (apply GJ.or; exact rfl; intro hg)))
    exact Wk.outS Sup.auto (.refl _) (hk _ a1 c1 (.inr rfl) h1 h2)
  · refine CallOk.intro (args := [_, _, _]) (rs := []) T_ok Tryd.func57 Tryd.call57 rfl rfl (by kernel_rfl) rfl rfl ?_
    repeat (first
      | (show _ ∧ _; exact ⟨rfl, rfl, rfl⟩)
      | refine wkP ?_
      | (show OpOk _ _ _ _ _ _ _; first | refine opB (fun b => ?_) | refine opA (fun a' c' hc1 hc2 => ?_))
      | (show GJ _ _ _ _ _ _ _; first | (apply GJ.and; exact rfl; intro hg) | (apply GJ.or; exact rfl; intro hg)))
    refine text_ok ht hs ?_
    generalize textD s = tx at hl hk ⊢
    repeat (first
      | (show _ ∧ _; exact ⟨rfl, rfl, rfl⟩)
      | refine wkP ?_
      | (show OpOk _ _ _ _ _ _ _; first | refine opB (fun b => ?_) | refine opA (fun a' c' hc1 hc2 => ?_))
      | (show GJ _ _ _ _ _ _ _; first | (apply GJ.and; exact rfl; intro hg) | (apply GJ.or; exact rfl; intro hg)))
    refine CallOk.sup (own0 := .blk p 87 [.pointer q, .slice a l.length c] :: .sl a l.length c 5 1 (l.map u8) :: r) Sup.auto ?_
    refine wstrL_ok hq rfl ⟨by omega, by omega⟩ (fun a1 c1 h1 h2 => ?_)
    rw [← List.length_append] at h1 ⊢
    repeat (first
      | (show _ ∧ _; exact ⟨rfl, rfl, rfl⟩)
      | refine wkP ?_
      | (show OpOk _ _ _ _ _ _ _; first | refine opB (fun b => ?_) | refine opA (fun a' c' hc1 hc2 => ?_))
      | (show GJ _ _ _ _ _ _ _; first | (apply GJ.and; exact rfl; intro hg) | (apply GJ.or; exact rfl; intro hg)))
    exact Wk.outS Sup.auto (.refl _) (hk _ a1 c1 (.inr rfl) h1 h2)
end
end Go.Proofs.YtniofdklhlbphaaDoor
