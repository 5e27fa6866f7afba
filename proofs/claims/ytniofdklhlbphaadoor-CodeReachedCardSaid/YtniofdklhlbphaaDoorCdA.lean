/- Contracts of code: the Maker's Program. -/
import Derived.Test.YtniofdklhlbphaaDoorCd9
import Derived.Test.YtniofdklhlbphaaDoorEn3
namespace Go.Proofs.YtniofdklhlbphaaDoor
open Go Go.E
set_option linter.unusedVariables false
set_option linter.unusedSimpArgs false
set_option maxRecDepth 10000
def prog0 : List Value := [.slice none 0 0, .int .i64 0, .int .i64 0, .int .i64 0]
theorem checkF_zero {p : ProgD} (h : (checkF p).1 = 0) : checkF p = (0, 0) := by
  have hh : checkF p = (2, 0) ∨ (∃ z, checkF p = (190, z)) ∨ checkF p = (0, 0) := by
    unfold checkF
    split
    · exact .inl rfl
    · split
      · exact .inr (.inl ⟨_, rfl⟩)
      · split
        · exact .inr (.inr rfl)
        · exact .inr (.inl ⟨_, rfl⟩)
  rcases hh with hh | ⟨z, hh⟩ | hh
  · rw [hh] at h; exact absurd h (by decide)
  · rw [hh] at h; exact absurd h (by show ¬(190 : Int) = 0; decide)
  · exact hh
section
variable {ro : Ro} {own r : Chs} {K : Value → Ro → Chs → Prop} {g : Chunk → Chs}
set_option maxHeartbeats 2000000 in
theorem mprog_ok {q : Nat} {p : ProgD} {a : ProgA} (hp : ProgOk ro p a) (hn : p.steps.length ≤ 65536) (hwn : ∀ s ∈ p.steps, s.ways.length ≤ 300)
    (hk1 : checkF p = (0, 0) → ∀ ro' a', Le ro ro' → MakeOk ro' p a' → K (.tuple #[.agg (progV p a').toArray, .agg (faultV (0, 0)).toArray]) ro' (.sl a'.sa p.steps.length a'.sc 42 265 (stepsV p.steps a'.xs) :: .blk q 47 (makerV p a) :: own))
    (hk2 : (checkF p).1 ≠ 0 → K (.tuple #[.agg prog0.toArray, .agg (faultV (checkF p)).toArray]) ro (.blk q 47 (makerV p a) :: own)) :
    CallOk Tryd.prog 23 #[ptr' q] ro (.blk q 47 (makerV p a) :: own) K := by
  refine CallOk.intro (args := [_]) (rs := [_, _]) T_ok Tryd.func23 Tryd.call23 rfl rfl (by kernel_rfl) rfl rfl ?_
  repeat (first
    | refine SeqOk.pass ?_
    | (show _ ∧ _; exact ⟨rfl, rfl, rfl⟩)
    | refine wkT ?_
    | refine Bs.all ?_
    | (show RetOk _ _ _ _ _ _; refine RetOk.of (T := T) (RL.row rfl rfl LdN.hasBlk (by rfl) (RL.tmp rfl (RL.tmp rfl RL.nil))) ?_)
    | (show QOk _ _ _ _ _ _ _; refine QOk.build rfl rfl Nf.auto ?_)
    | (show OpOk _ _ _ _ _ _ _; first | refine opB (fun b => ?_) | refine opA (fun a' c' hc1 hc2 => ?_))
    | (show GJ _ _ _ _ _ _ _; first | refine GJ.t (by decide) ?_ | refine GJ.f (by decide) ?_ | refine GJ.ft (by decide) ?_ | refine GJ.ff (by decide) ?_)
    | (show Br _ _ _; first | refine Br.t (by decide) ?_ | refine Br.f (by decide) ?_)
    | (show GJ _ _ _ _ _ _ _; first | (apply GJ.and; exact rfl; intro hg) | (apply GJ.or; exact rfl; intro hg)))
  rename_i b0
  refine ccheck_ok hp ?_
  repeat (first
    | refine SeqOk.pass ?_
    | (show _ ∧ _; exact ⟨rfl, rfl, rfl⟩)
    | refine wkT ?_
    | refine Bs.all ?_
    | (show RetOk _ _ _ _ _ _; refine RetOk.of (T := T) (RL.row rfl rfl LdN.hasBlk (by rfl) (RL.tmp rfl (RL.tmp rfl RL.nil))) ?_)
    | (show QOk _ _ _ _ _ _ _; refine QOk.build rfl rfl Nf.auto ?_)
    | (show OpOk _ _ _ _ _ _ _; first | refine opB (fun b => ?_) | refine opA (fun a' c' hc1 hc2 => ?_))
    | (show GJ _ _ _ _ _ _ _; first | refine GJ.t (by decide) ?_ | refine GJ.f (by decide) ?_ | refine GJ.ft (by decide) ?_ | refine GJ.ff (by decide) ?_)
    | (show Br _ _ _; first | refine Br.t (by decide) ?_ | refine Br.f (by decide) ?_)
    | (show GJ _ _ _ _ _ _ _; first | (apply GJ.and; exact rfl; intro hg) | (apply GJ.or; exact rfl; intro hg)))
  refine Br.cases (fun hg => ?_) (fun hg => ?_)
  · repeat (first
      | refine SeqOk.pass ?_
      | (show _ ∧ _; exact ⟨rfl, rfl, rfl⟩)
      | refine wkT ?_
      | refine Bs.all ?_
      | (show RetOk _ _ _ _ _ _; refine RetOk.of (T := T) (RL.row rfl rfl LdN.hasBlk (by rfl) (RL.tmp rfl (RL.tmp rfl RL.nil))) ?_)
      | (show QOk _ _ _ _ _ _ _; refine QOk.build rfl rfl Nf.auto ?_)
      | (show OpOk _ _ _ _ _ _ _; first | refine opB (fun b => ?_) | refine opA (fun a' c' hc1 hc2 => ?_))
      | (show GJ _ _ _ _ _ _ _; first | refine GJ.t (by decide) ?_ | refine GJ.f (by decide) ?_ | refine GJ.ft (by decide) ?_ | refine GJ.ff (by decide) ?_)
      | (show Br _ _ _; first | refine Br.t (by decide) ?_ | refine Br.f (by decide) ?_)
      | (show GJ _ _ _ _ _ _ _; first | (apply GJ.and; exact rfl; intro hg) | (apply GJ.or; exact rfl; intro hg)))
    exact Wk.outS Sup.auto (.refl _) (hk2 hg)
  · have hz : checkF p = (0, 0) := checkF_zero (by omega)
    repeat (first
      | refine SeqOk.pass ?_
      | (show _ ∧ _; exact ⟨rfl, rfl, rfl⟩)
      | refine wkT ?_
      | refine Bs.all ?_
      | (show RetOk _ _ _ _ _ _; refine RetOk.of (T := T) (RL.row rfl rfl LdN.hasBlk (by rfl) (RL.tmp rfl (RL.tmp rfl RL.nil))) ?_)
      | (show QOk _ _ _ _ _ _ _; refine QOk.build rfl rfl Nf.auto ?_)
      | (show OpOk _ _ _ _ _ _ _; first | refine opB (fun b => ?_) | refine opA (fun a' c' hc1 hc2 => ?_))
      | (show GJ _ _ _ _ _ _ _; first | refine GJ.t (by decide) ?_ | refine GJ.f (by decide) ?_ | refine GJ.ft (by decide) ?_ | refine GJ.ff (by decide) ?_)
      | (show Br _ _ _; first | refine Br.t (by decide) ?_ | refine Br.f (by decide) ?_)
      | (show GJ _ _ _ _ _ _ _; first | (apply GJ.and; exact rfl; intro hg) | (apply GJ.or; exact rfl; intro hg)))
    refine clone_ok hp hn hwn (fun ro' a' hl hm => ?_)
    repeat (first
      | refine SeqOk.pass ?_
      | (show _ ∧ _; exact ⟨rfl, rfl, rfl⟩)
      | refine wkT ?_
      | refine Bs.all ?_
      | (show RetOk _ _ _ _ _ _; refine RetOk.of (T := T) (RL.row rfl rfl LdN.hasBlk (by rfl) (RL.tmp rfl (RL.tmp rfl RL.nil))) ?_)
      | (show QOk _ _ _ _ _ _ _; refine QOk.build rfl rfl Nf.auto ?_)
      | (show OpOk _ _ _ _ _ _ _; first | refine opB (fun b => ?_) | refine opA (fun a' c' hc1 hc2 => ?_))
      | (show GJ _ _ _ _ _ _ _; first | refine GJ.t (by decide) ?_ | refine GJ.f (by decide) ?_ | refine GJ.ft (by decide) ?_ | refine GJ.ff (by decide) ?_)
      | (show Br _ _ _; first | refine Br.t (by decide) ?_ | refine Br.f (by decide) ?_)
      | (show GJ _ _ _ _ _ _ _; first | (apply GJ.and; exact rfl; intro hg) | (apply GJ.or; exact rfl; intro hg)))
    exact Wk.outS Sup.auto (.refl _) (hk1 hz ro' a' hl hm)
end
end Go.Proofs.YtniofdklhlbphaaDoor
