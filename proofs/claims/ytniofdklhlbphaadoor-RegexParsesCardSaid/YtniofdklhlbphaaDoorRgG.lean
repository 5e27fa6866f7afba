/- Contracts of regex: write, all kinds; Text. -/
import Derived.Test.YtniofdklhlbphaaDoorRgF
namespace Go.Proofs.YtniofdklhlbphaaDoor
open Go Go.E
set_option linter.unusedVariables false
set_option linter.unusedSimpArgs false
set_option maxRecDepth 10000
section
variable {ro : Ro} {own r : Chs} {K : Value → Ro → Chs → Prop} {g : Chunk → Chs} {p c : Nat} {q a : Option Addr} {l : List UInt8} {x : Int}
set_option maxHeartbeats 8000000 in
theorem write_none {s : SetD} {m y : Int} {ad : Option Addr} {cp k0 : Nat} (w : Bool) (hx : x = (if w then 1 else 0)) (hq : BQ p q) (hc : l.length ≤ c) (hm : c ≤ maxLen) (hl : l.length ≤ 10000000)
    (hk : ∀ q' a' c' l', l' = (if w then l ++ [40, 41] else l) → BQ p q' → l'.length ≤ c' → c' ≤ maxLen → (w = false → q' = q ∧ a' = a ∧ c' = c) → K (.tuple #[]) ro (.blk p 87 [.pointer q', .slice a' l'.length c'] :: .sl a' l'.length c' 5 1 (l'.map u8) :: r)) :
    CallOk Tryd.prog 57 #[ptr' p, .agg (nodeV 1 s ad k0 cp m y).toArray, .int .i64 x] ro (.blk p 87 [.pointer q, .slice a l.length c] :: .sl a l.length c 5 1 (l.map u8) :: r) K := by
  cases w with
  | true =>
    have hx : x = 1 := hx
    subst hx
    refine CallOk.intro (args := [_, _, _]) (rs := []) T_ok Tryd.func57 Tryd.call57 rfl rfl (by kernel_rfl) rfl rfl ?_
    repeat (first
      | (show _ ∧ _; exact ⟨rfl, rfl, rfl⟩)
      | refine wkP ?_
      | (show OpOk _ _ _ _ _ _ _; first | refine opB (fun b => ?_) | refine opA (fun a' c' hc1 hc2 => ?_))
      | (show GJ _ _ _ _ _ _ _; first | (apply GJ.and; exact rfl; intro hg) | (apply GJ.or; exact rfl; intro hg)))
    refine CallOk.sup (own0 := .blk p 87 [.pointer q, .slice a l.length c] :: .sl a l.length c 5 1 (l.map u8) :: .blk b 58 (nodeV 1 s ad k0 cp m y) :: r) Sup.auto ?_
    refine wbyteL_ok (u := 40) hq rfl rfl (by omega) (fun a0 c0 k1 k2 => ?_)
    rw [show l.length + 1 = (l ++ [40]).length by simp] at k1 ⊢
    repeat (first
      | (show _ ∧ _; exact ⟨rfl, rfl, rfl⟩)
      | refine wkP ?_
      | (show OpOk _ _ _ _ _ _ _; first | refine opB (fun b => ?_) | refine opA (fun a' c' hc1 hc2 => ?_))
      | (show GJ _ _ _ _ _ _ _; first | (apply GJ.and; exact rfl; intro hg) | (apply GJ.or; exact rfl; intro hg)))
    refine CallOk.sup (own0 := .blk p 87 [ptr' p, .slice a0 (l ++ [40]).length c0] :: .sl a0 (l ++ [40]).length c0 5 1 ((l ++ [40]).map u8) :: r) Sup.auto ?_
    refine wbyteL_ok (u := 41) (.inr rfl) rfl rfl (by simp; omega) (fun a2 c2 k3 k4 => ?_)
    have e1 : (l ++ [40]).length + 1 = (l ++ [40] ++ [41]).length := by simp
    rw [e1] at k3 ⊢
    repeat (first
      | (show _ ∧ _; exact ⟨rfl, rfl, rfl⟩)
      | refine wkP ?_
      | (show OpOk _ _ _ _ _ _ _; first | refine opB (fun b => ?_) | refine opA (fun a' c' hc1 hc2 => ?_))
      | (show GJ _ _ _ _ _ _ _; first | (apply GJ.and; exact rfl; intro hg) | (apply GJ.or; exact rfl; intro hg)))
    exact Wk.outS Sup.auto (.refl _) (hk _ a2 c2 _ (by simp) (.inr rfl) k3 k4 (fun h => by cases h))
  | false =>
    have hx : x = 0 := hx
    subst hx
    refine CallOk.intro (args := [_, _, _]) (rs := []) T_ok Tryd.func57 Tryd.call57 rfl rfl (by kernel_rfl) rfl rfl ?_
    repeat (first
      | (show _ ∧ _; exact ⟨rfl, rfl, rfl⟩)
      | refine wkP ?_
      | (show OpOk _ _ _ _ _ _ _; first | refine opB (fun b => ?_) | refine opA (fun a' c' hc1 hc2 => ?_))
      | (show GJ _ _ _ _ _ _ _; first | (apply GJ.and; exact rfl; intro hg) | (apply GJ.or; exact rfl; intro hg)))
    exact Wk.outS Sup.auto (.refl _) (hk _ a c l rfl hq hc hm (fun _ => ⟨rfl, rfl, rfl⟩))
set_option maxHeartbeats 8000000 in
theorem write_rep {s : SetD} {m y : Int} {ad : Option Addr} {cp : Nat} {kd : RgD} {v : List Value} (ih : WrC kd) (hwk : wrongD kd = 0) (ht : TabOk ro) (hrs : Rs ro ad 1 cp 8 v) (hv : RgOk ro kd v) (h : ¬ (m < 0 ∨ 256 < m ∨ 256 < y ∨ (0 ≤ y ∧ y < m)))
    (hq : BQ p q) (hc : l.length ≤ c) (hm : c ≤ maxLen) (hl : l.length + (writeD kd true).length + (oftenD m y).length ≤ 10000000)
    (hk : ∀ q' a' c', BQ p q' → (l ++ (writeD kd true ++ oftenD m y)).length ≤ c' → c' ≤ maxLen → K (.tuple #[]) ro (.blk p 87 [.pointer q', .slice a' (l ++ (writeD kd true ++ oftenD m y)).length c'] :: .sl a' (l ++ (writeD kd true ++ oftenD m y)).length c' 5 1 ((l ++ (writeD kd true ++ oftenD m y)).map u8) :: r)) :
    CallOk Tryd.prog 57 #[ptr' p, .agg (nodeV 5 s ad 1 cp m y).toArray, .int .i64 x] ro (.blk p 87 [.pointer q, .slice a l.length c] :: .sl a l.length c 5 1 (l.map u8) :: r) K := by
  obtain ⟨ak, ck, hvk⟩ := hv.cells
  subst hvk
  have hd : ((nodeV kd.kind kd.set ak kd.kids.length ck kd.min kd.max).drop 0).take 8 = nodeV kd.kind kd.set ak kd.kids.length ck kd.min kd.max := rfl
  have fin : ∀ q2 a2 c2, BQ p q2 → (l ++ writeD kd true).length ≤ c2 → c2 ≤ maxLen → ∀ {R : Value → Ro → Chs → Prop} {rest : Chs}, (∀ q' a' c', BQ p q' → (l ++ (writeD kd true ++ oftenD m y)).length ≤ c' → c' ≤ maxLen → R (.tuple #[.int .i64 (((oftenD m y).length : Nat) : Int), .nilIface]) ro (.blk p 87 [.pointer q', .slice a' (l ++ (writeD kd true ++ oftenD m y)).length c'] :: .sl a' (l ++ (writeD kd true ++ oftenD m y)).length c' 5 1 ((l ++ (writeD kd true ++ oftenD m y)).map u8) :: rest)) →
      CallOk Tryd.prog 42 #[ptr' p, str (oftenD m y)] ro (.blk p 87 [.pointer q2, .slice a2 (l ++ writeD kd true).length c2] :: .sl a2 (l ++ writeD kd true).length c2 5 1 ((l ++ writeD kd true).map u8) :: rest) R := fun q2 a2 c2 g1 g2 g3 {R rest} hR => by
    refine wstrL_ok g1 rfl ⟨by rw [List.length_append]; omega, by omega⟩ (fun a3 c3 k1 k2 => ?_)
    have e2 : (l ++ writeD kd true).length + (oftenD m y).length = (l ++ (writeD kd true ++ oftenD m y)).length := by simp [Nat.add_assoc]
    rw [e2] at k1 ⊢
    have := hR (some ⟨p, 0, none⟩) a3 c3 (.inr rfl) k1 k2
    rw [List.append_assoc]
    exact this
  by_cases hx : x > 0
  · refine CallOk.intro (args := [_, _, _]) (rs := []) T_ok Tryd.func57 Tryd.call57 rfl rfl (by kernel_rfl) rfl rfl ?_
    repeat (first
      | (show _ ∧ _; exact ⟨rfl, rfl, rfl⟩)
      | refine wkP ?_
      | (show OpOk _ _ _ _ _ _ _; first | refine opB (fun b => ?_) | refine opA (fun a' c' hc1 hc2 => ?_))
      | (show GJ _ _ _ _ _ _ _; first | (apply GJ.and; exact rfl; intro hg) | (apply GJ.or; exact rfl; intro hg)))
    refine OpOk.loadRow rfl rfl (LdN.at hrs hd) rfl ?_
    repeat (first
      | (show _ ∧ _; exact ⟨rfl, rfl, rfl⟩)
      | refine wkP ?_
      | (show OpOk _ _ _ _ _ _ _; first | refine opB (fun b => ?_) | refine opA (fun a' c' hc1 hc2 => ?_))
      | (show GJ _ _ _ _ _ _ _; first | (apply GJ.and; exact rfl; intro hg) | (apply GJ.or; exact rfl; intro hg)))
    refine CallOk.sup (own0 := .blk p 87 [.pointer q, .slice a l.length c] :: .sl a l.length c 5 1 (l.map u8) :: .blk b 58 (nodeV 5 s ad 1 cp m y) :: r) Sup.auto ?_
    refine ih.run true rfl hwk ht hv hq hc hm (by omega) (fun q2 a2 c2 g1 g2 g3 => ?_)
    repeat (first
      | (show _ ∧ _; exact ⟨rfl, rfl, rfl⟩)
      | refine wkP ?_
      | (show OpOk _ _ _ _ _ _ _; first | refine opB (fun b => ?_) | refine opA (fun a' c' hc1 hc2 => ?_))
      | (show GJ _ _ _ _ _ _ _; first | (apply GJ.and; exact rfl; intro hg) | (apply GJ.or; exact rfl; intro hg)))
    refine roften_ok h ?_
    repeat (first
      | (show _ ∧ _; exact ⟨rfl, rfl, rfl⟩)
      | refine wkP ?_
      | (show OpOk _ _ _ _ _ _ _; first | refine opB (fun b => ?_) | refine opA (fun a' c' hc1 hc2 => ?_))
      | (show GJ _ _ _ _ _ _ _; first | (apply GJ.and; exact rfl; intro hg) | (apply GJ.or; exact rfl; intro hg)))
    refine CallOk.sup (own0 := .blk p 87 [.pointer q2, .slice a2 (l ++ writeD kd true).length c2] :: .sl a2 (l ++ writeD kd true).length c2 5 1 ((l ++ writeD kd true).map u8) :: r) Sup.auto ?_
    refine fin q2 a2 c2 g1 g2 g3 (fun q' a' c' k1 k2 k3 => ?_)
    repeat (first
      | (show _ ∧ _; exact ⟨rfl, rfl, rfl⟩)
      | refine wkP ?_
      | (show OpOk _ _ _ _ _ _ _; first | refine opB (fun b => ?_) | refine opA (fun a' c' hc1 hc2 => ?_))
      | (show GJ _ _ _ _ _ _ _; first | (apply GJ.and; exact rfl; intro hg) | (apply GJ.or; exact rfl; intro hg)))
    exact Wk.outS Sup.auto (.refl _) (hk q' a' c' k1 k2 k3)
  · refine CallOk.intro (args := [_, _, _]) (rs := []) T_ok Tryd.func57 Tryd.call57 rfl rfl (by kernel_rfl) rfl rfl ?_
    repeat (first
      | (show _ ∧ _; exact ⟨rfl, rfl, rfl⟩)
      | refine wkP ?_
      | (show OpOk _ _ _ _ _ _ _; first | refine opB (fun b => ?_) | refine opA (fun a' c' hc1 hc2 => ?_))
      | (show GJ _ _ _ _ _ _ _; first | (apply GJ.and; exact rfl; intro hg) | (apply GJ.or; exact rfl; intro hg)))
    refine OpOk.loadRow rfl rfl (LdN.at hrs hd) rfl ?_
    repeat (first
      | (show _ ∧ _; exact ⟨rfl, rfl, rfl⟩)
      | refine wkP ?_
      | (show OpOk _ _ _ _ _ _ _; first | refine opB (fun b => ?_) | refine opA (fun a' c' hc1 hc2 => ?_))
      | (show GJ _ _ _ _ _ _ _; first | (apply GJ.and; exact rfl; intro hg) | (apply GJ.or; exact rfl; intro hg)))
    refine CallOk.sup (own0 := .blk p 87 [.pointer q, .slice a l.length c] :: .sl a l.length c 5 1 (l.map u8) :: .blk b 58 (nodeV 5 s ad 1 cp m y) :: r) Sup.auto ?_
    refine ih.run true rfl hwk ht hv hq hc hm (by omega) (fun q2 a2 c2 g1 g2 g3 => ?_)
    repeat (first
      | (show _ ∧ _; exact ⟨rfl, rfl, rfl⟩)
      | refine wkP ?_
      | (show OpOk _ _ _ _ _ _ _; first | refine opB (fun b => ?_) | refine opA (fun a' c' hc1 hc2 => ?_))
      | (show GJ _ _ _ _ _ _ _; first | (apply GJ.and; exact rfl; intro hg) | (apply GJ.or; exact rfl; intro hg)))
    refine roften_ok h ?_
    repeat (first
      | (show _ ∧ _; exact ⟨rfl, rfl, rfl⟩)
      | refine wkP ?_
      | (show OpOk _ _ _ _ _ _ _; first | refine opB (fun b => ?_) | refine opA (fun a' c' hc1 hc2 => ?_))
      | (show GJ _ _ _ _ _ _ _; first | (apply GJ.and; exact rfl; intro hg) | (apply GJ.or; exact rfl; intro hg)))
    refine CallOk.sup (own0 := .blk p 87 [.pointer q2, .slice a2 (l ++ writeD kd true).length c2] :: .sl a2 (l ++ writeD kd true).length c2 5 1 ((l ++ writeD kd true).map u8) :: r) Sup.auto ?_
    refine fin q2 a2 c2 g1 g2 g3 (fun q' a' c' k1 k2 k3 => ?_)
    repeat (first
      | (show _ ∧ _; exact ⟨rfl, rfl, rfl⟩)
      | refine wkP ?_
      | (show OpOk _ _ _ _ _ _ _; first | refine opB (fun b => ?_) | refine opA (fun a' c' hc1 hc2 => ?_))
      | (show GJ _ _ _ _ _ _ _; first | (apply GJ.and; exact rfl; intro hg) | (apply GJ.or; exact rfl; intro hg)))
    exact Wk.outS Sup.auto (.refl _) (hk q' a' c' k1 k2 k3)
end
end Go.Proofs.YtniofdklhlbphaaDoor
