/- Contracts of spec: Same, from outside; what the law's own builder does. -/
import Derived.Test.YtniofdklhlbphaaSp9
namespace Go.Proofs.Ytniofdklhlbphaa
open Go Go.E
set_option linter.unusedVariables false
set_option maxRecDepth 10000
section
variable {ro : Ro} {own r : Chs} {K : Value → Ro → Chs → Prop} {g : Chunk → Chs}
set_option maxHeartbeats 1000000 in
theorem msame_ok {s : SpecD} {a a2 : SpecA} (ho : SpecOk ro s a) (ho2 : SpecOk ro s a2) (hv : Ahead s) (hd : ∀ d ∈ s.defs, 0 ≤ d.type ∧ d.type < (s.nodes.length : Int)) (hk : K (.bool true) ro own) : CallOk Try.prog 16 #[.agg (specV s a).toArray, .agg (specV s a2).toArray] ro own K := by
  have hr2 := ho.defs
  have hr3 := ho2.defs
  have hm2 := hr2.max
  have hle2 := hr2.le
  have hm3 := hr3.max
  have hle3 := hr3.le
  unfold maxLen at hm2 hm3
  refine CallOk.intro (args := [_, _]) (rs := [_]) T_ok Try.func16 Try.call16 rfl rfl (by kernel_rfl) rfl rfl ?_
  repeat (first
    | (show _ ∧ _; exact ⟨rfl, rfl, rfl⟩)
    | refine wkU ?_
    | (show QOk _ _ _ _ _ _ _; refine QOk.build rfl rfl Nf.auto ?_)
    | (show GJ _ _ _ _ _ _ _; first | with_reducible refine GJ.neF ?_ | with_reducible refine GJ.neT ?_)
    | (show Br _ _ _; with_reducible refine Br.ne ?_)
    | (show OpOk _ _ _ _ _ _ _; first | refine opB (fun b => ?_) | refine opA (fun a' c' hc1 hc2 => ?_))
    | (show GJ _ _ _ _ _ _ _; first | (apply GJ.and; exact rfl; intro hg) | (apply GJ.or; exact rfl; intro hg)))
  rename_i b1
  refine LoopOk.at (ι := Nat) Keep.auto (fun i => [(25, .int .i64 (i : Int))]) (fun i => .blk b 25 (specV s a2) :: .blk b1 25 (specV s a) :: own) (fun i => i ≤ s.defs.length) (fun i => s.defs.length - i) 0 ?_ Sub.auto Sup.auto ?_
  · omega
  rintro i i1
  dsimp only [List.cons_append, List.nil_append]
  repeat (first
    | (show _ ∧ _; exact ⟨rfl, rfl, rfl⟩)
    | refine wkG ?_
    | (show OpOk _ _ _ _ _ _ _; first | refine opB (fun b => ?_) | refine opA (fun a' c' hc1 hc2 => ?_))
    | (show GJ _ _ _ _ _ _ _; first | (apply GJ.and; exact rfl; intro hg) | (apply GJ.or; exact rfl; intro hg) | refine GJ.t omAuto ?_ | refine GJ.f omAuto ?_ | refine GJ.ft omAuto ?_ | refine GJ.ff omAuto ?_))
  refine Br.cases (fun hg => ?_) (fun hg => ?_)
  · have hdf := defsV_drop s.defs (i := i) (by omega)
    have hmem := hd (s.defs[i]'(by omega)) (List.getElem_mem _)
    generalize s.defs[i]'(by omega) = f at hdf hmem
    obtain ⟨m, hm⟩ : ∃ m : Nat, f.type = (m : Int) := ⟨f.type.toNat, by omega⟩
    have hc0 : (defsV s.defs)[i * 2 + 0]? = some (str f.name) := by
      have := congrArg (·[0]?) hdf
      simpa [defV, List.getElem?_take, List.getElem?_drop] using this
    have hc1 : (defsV s.defs)[i * 2 + 1]? = some (.int .i64 (m : Int)) := by
      rw [← hm]
      have := congrArg (·[1]?) hdf
      simpa [defV, List.getElem?_take, List.getElem?_drop] using this
    repeat (first
      | (show _ ∧ _; exact ⟨rfl, rfl, rfl⟩)
      | refine wkU ?_
      | (show QOk _ _ _ _ _ _ _; refine QOk.build rfl rfl Nf.auto ?_)
      | (show GJ _ _ _ _ _ _ _; first | with_reducible refine GJ.neF ?_ | with_reducible refine GJ.neT ?_)
      | (show Br _ _ _; with_reducible refine Br.ne ?_)
      | (show OpOk _ _ _ _ _ _ _; first | refine opB (fun b => ?_) | refine opA (fun a' c' hc1 hc2 => ?_))
      | (show GJ _ _ _ _ _ _ _; first | (apply GJ.and; exact rfl; intro hg) | (apply GJ.or; exact rfl; intro hg)))
    rw [Int.toNat_natCast, Nat.add_assoc]
    refine QOk.load rfl rfl (Ld.rs hr2 hc0) ?_
    repeat (first
      | (show _ ∧ _; exact ⟨rfl, rfl, rfl⟩)
      | refine wkU ?_
      | (show QOk _ _ _ _ _ _ _; refine QOk.build rfl rfl Nf.auto ?_)
      | (show GJ _ _ _ _ _ _ _; first | with_reducible refine GJ.neF ?_ | with_reducible refine GJ.neT ?_)
      | (show Br _ _ _; with_reducible refine Br.ne ?_)
      | (show OpOk _ _ _ _ _ _ _; first | refine opB (fun b => ?_) | refine opA (fun a' c' hc1 hc2 => ?_))
      | (show GJ _ _ _ _ _ _ _; first | (apply GJ.and; exact rfl; intro hg) | (apply GJ.or; exact rfl; intro hg)))
    rw [Int.toNat_natCast, Nat.add_assoc]
    refine QOk.load rfl rfl (Ld.rs hr3 hc0) ?_
    repeat (first
      | (show _ ∧ _; exact ⟨rfl, rfl, rfl⟩)
      | refine wkU ?_
      | (show QOk _ _ _ _ _ _ _; refine QOk.build rfl rfl Nf.auto ?_)
      | (show GJ _ _ _ _ _ _ _; first | with_reducible refine GJ.neF ?_ | with_reducible refine GJ.neT ?_)
      | (show Br _ _ _; with_reducible refine Br.ne ?_)
      | (show OpOk _ _ _ _ _ _ _; first | refine opB (fun b => ?_) | refine opA (fun a' c' hc1 hc2 => ?_))
      | (show GJ _ _ _ _ _ _ _; first | (apply GJ.and; exact rfl; intro hg) | (apply GJ.or; exact rfl; intro hg)))
    rw [Int.toNat_natCast, Nat.add_assoc]
    refine QOk.load rfl rfl (Ld.rs hr2 hc1) ?_
    repeat (first
      | (show _ ∧ _; exact ⟨rfl, rfl, rfl⟩)
      | refine wkU ?_
      | (show QOk _ _ _ _ _ _ _; refine QOk.build rfl rfl Nf.auto ?_)
      | (show GJ _ _ _ _ _ _ _; first | with_reducible refine GJ.neF ?_ | with_reducible refine GJ.neT ?_)
      | (show Br _ _ _; with_reducible refine Br.ne ?_)
      | (show OpOk _ _ _ _ _ _ _; first | refine opB (fun b => ?_) | refine opA (fun a' c' hc1 hc2 => ?_))
      | (show GJ _ _ _ _ _ _ _; first | (apply GJ.and; exact rfl; intro hg) | (apply GJ.or; exact rfl; intro hg)))
    rw [Int.toNat_natCast, Nat.add_assoc]
    refine QOk.load rfl rfl (Ld.rs hr3 hc1) ?_
    repeat (first
      | (show _ ∧ _; exact ⟨rfl, rfl, rfl⟩)
      | refine wkU ?_
      | (show QOk _ _ _ _ _ _ _; refine QOk.build rfl rfl Nf.auto ?_)
      | (show GJ _ _ _ _ _ _ _; first | with_reducible refine GJ.neF ?_ | with_reducible refine GJ.neT ?_)
      | (show Br _ _ _; with_reducible refine Br.ne ?_)
      | (show OpOk _ _ _ _ _ _ _; first | refine opB (fun b => ?_) | refine opA (fun a' c' hc1 hc2 => ?_))
      | (show GJ _ _ _ _ _ _ _; first | (apply GJ.and; exact rfl; intro hg) | (apply GJ.or; exact rfl; intro hg)))
    refine same_ok ho ho2 hv (m + 1) m (by omega) (by omega) ro _ _ ?_
    repeat (first
      | (show _ ∧ _; exact ⟨rfl, rfl, rfl⟩)
      | refine wkU ?_
      | (show QOk _ _ _ _ _ _ _; refine QOk.build rfl rfl Nf.auto ?_)
      | (show GJ _ _ _ _ _ _ _; first | with_reducible refine GJ.neF ?_ | with_reducible refine GJ.neT ?_)
      | (show Br _ _ _; with_reducible refine Br.ne ?_)
      | (show OpOk _ _ _ _ _ _ _; first | refine opB (fun b => ?_) | refine opA (fun a' c' hc1 hc2 => ?_))
      | (show GJ _ _ _ _ _ _ _; first | (apply GJ.and; exact rfl; intro hg) | (apply GJ.or; exact rfl; intro hg)))
    refine Wk.id ⟨i + 1, ⟨rfl, ?_⟩, ?_, Sub.auto, Sup.auto⟩
    all_goals try dsimp only
    · omega
    · omega
  · repeat (first
      | (show _ ∧ _; exact ⟨rfl, rfl, rfl⟩)
      | refine wkU ?_
      | (show QOk _ _ _ _ _ _ _; refine QOk.build rfl rfl Nf.auto ?_)
      | (show GJ _ _ _ _ _ _ _; first | with_reducible refine GJ.neF ?_ | with_reducible refine GJ.neT ?_)
      | (show Br _ _ _; with_reducible refine Br.ne ?_)
      | (show OpOk _ _ _ _ _ _ _; first | refine opB (fun b => ?_) | refine opA (fun a' c' hc1 hc2 => ?_))
      | (show GJ _ _ _ _ _ _ _; first | (apply GJ.and; exact rfl; intro hg) | (apply GJ.or; exact rfl; intro hg)))
    exact Wk.outS Sup.auto (.refl _) hk
end
end Go.Proofs.Ytniofdklhlbphaa
