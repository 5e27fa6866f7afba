/- Contracts of class: Bytes. -/
import Derived.Test.YtkpdnpcmeadggaaDoorCL
import Derived.Test.YtkpdnpcmeadggaaDoorEn2
namespace Go.Proofs.YtkpdnpcmeadggaaDoor
open Go Go.E
set_option linter.unusedVariables false
set_option linter.unusedSimpArgs false
set_option maxRecDepth 10000
def nbV (l : List Nat) : List Value := l.map fun (c : Nat) => .int .u8 (c : Int)
theorem bytesD_len (s : SetD) : (bytesD s).length ≤ 256 := Nat.le_trans (List.length_filter_le _ _) (by simp)
theorem bytesD_lt {s : SetD} {c : Nat} (h : c ∈ bytesD s) : c < 256 := List.mem_range.1 (List.mem_filter.1 h).1
section
variable {ro : Ro} {own r : Chs} {K : Value → Ro → Chs → Prop} {g : Chunk → Chs}
theorem bytes_ok {s : SetD} (hs : SetIn s)
    (hk : ∀ a c, (bytesD s).length ≤ c → c ≤ maxLen → K (.slice a (bytesD s).length c) ro (.sl a (bytesD s).length c 5 1 (nbV (bytesD s)) :: own)) : CallOk Tryd.prog 13 #[.agg (setV s).toArray] ro own K := by
  have hlen := bytesD_len s
  refine CallOk.introM (args := [_]) (rs := [_]) T_ok Tryd.func13 Tryd.call13 rfl rfl (by kernel_rfl) rfl ?_
  repeat (first
    | (show _ ∧ _; exact ⟨rfl, rfl, rfl⟩)
    | refine wkT ?_
    | (show OpOk _ _ _ _ _ _ _; first | refine opB (fun b => ?_) | refine opA (fun a' c' hc1 hc2 => ?_))
    | (show GJ _ _ _ _ _ _ _; first | (apply GJ.and; exact rfl; intro hg) | (apply GJ.or; exact rfl; intro hg)))
  refine CodeOk.rangeFunc (T := T) (α := Nat) (ps := [_]) (bs := [_]) (encs := fun c => [.int .u8 (c : Int)]) rfl Tryd.call31 (each_iter hs) (fun _ => rfl) rfl (ι := List Nat × Option Addr × Nat) (κ := Empty)
    (fun (p, a, c) => .blk b 27 [.slice a p.length c] :: .sl a p.length c 5 1 (nbV p) :: own) (fun pre (p, a, c) => p = pre ∧ p.length ≤ c ∧ c ≤ maxLen) (fun e => e.elim) (fun _ e => e.elim) (fun x => [(4, .int .u8 (x : Int)), (3, .pointer (some ⟨b, 0, none⟩))]) ([], none, 0) ⟨rfl, Nat.le_refl _, Nat.zero_le _⟩ Sup.auto ?_ ?_ ?_ (fun _ e => e.elim)
  · intro x own' ro' hl
    repeat (first
      | (show _ ∧ _; exact ⟨rfl, rfl, rfl⟩)
      | refine wkT ?_
      | (show OpOk _ _ _ _ _ _ _; first | refine opB (fun b => ?_) | refine opA (fun a' c' hc1 hc2 => ?_))
      | (show GJ _ _ _ _ _ _ _; first | (apply GJ.and; exact rfl; intro hg) | (apply GJ.or; exact rfl; intro hg)))
    exact ⟨(by repeat (first | exact trivial | refine Sub.cons rfl ?_)), Sup.all _⟩
  · rintro pre x rest ⟨p, a, c⟩ ro' hl hx ⟨rfl, i1, i2⟩
    have hpl : p.length < 256 := by
      have := congrArg List.length hx
      simp at this; omega
    dsimp only
    repeat (first
      | (show _ ∧ _; exact ⟨rfl, rfl, rfl⟩)
      | refine wkT ?_
      | (show OpOk _ _ _ _ _ _ _; first | refine opB (fun b => ?_) | refine opA (fun a' c' hc1 hc2 => ?_))
      | (show GJ _ _ _ _ _ _ _; first | (apply GJ.and; exact rfl; intro hg) | (apply GJ.or; exact rfl; intro hg)))
    have e1 : p.length + 1 = (p ++ [x]).length := by simp
    have e2 : nbV p ++ [.int .u8 (x : Int)] = nbV (p ++ [x]) := by simp [nbV]
    rw [e1] at hc1 ⊢
    rw [e2]
    exact Wk.id ⟨(p ++ [x], a', c'), ⟨rfl, hc1, hc2⟩, Sup.auto⟩
  · rintro ⟨p, a, c⟩ ro' hl ⟨rfl, i1, i2⟩
    dsimp only
    repeat (first
      | (show _ ∧ _; exact ⟨rfl, rfl, rfl⟩)
      | refine wkT ?_
      | (show OpOk _ _ _ _ _ _ _; first | refine opB (fun b => ?_) | refine opA (fun a' c' hc1 hc2 => ?_))
      | (show GJ _ _ _ _ _ _ _; first | (apply GJ.and; exact rfl; intro hg) | (apply GJ.or; exact rfl; intro hg)))
    refine Wk.own (.sl a (bytesD s).length c 5 1 (nbV (bytesD s)) :: own) Sup.auto (Wk.id ?_)
    exact hk _ _ i1 i2
end
end Go.Proofs.YtkpdnpcmeadggaaDoor
