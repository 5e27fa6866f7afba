/- Contracts of spec: form. -/
import Derived.Test.YtniofdklhlbphaaSp2
namespace Go.Proofs.Ytniofdklhlbphaa
open Go Go.E
set_option linter.unusedVariables false
set_option maxRecDepth 10000
def plainD (d : NodeD) : Int :=
  if d.kind = 1 ∧ ¬ (1 ≤ d.width ∧ d.width ≤ 8) then 1
  else if (d.kind ≠ 1 ∧ (d.width ≠ 0 ∨ d.little = true)) ∨ (d.width = 1 ∧ d.little = true) ∨ (d.kind ≠ 2 ∧ (d.zig = true ∨ d.lenient = true)) then 5
  else if (d.kind = 1 ∨ d.kind = 2) ∧ (d.max < d.min ∨ mostD d < d.max) then 1
  else if ¬ (d.kind = 1 ∨ d.kind = 2) ∧ (d.min ≠ 0 ∨ d.max ≠ 0) then 5
  else if ¬ ((d.kind = 3 ∨ d.kind = 13) ↔ d.text ≠ []) then 5
  else if (¬ (d.kind = 4 ∨ d.kind = 6 ∨ d.kind = 8) ∧ (d.ereg ≠ [] ∨ d.emul ≠ 0 ∨ d.eadd ≠ 0)) ∨ (d.ereg = [] ∧ d.emul ≠ 0) ∨ (d.ereg ≠ [] ∧ d.emul = 0) then 5
  else 0
def formD (d : NodeD) : Int :=
  if d.kind < 1 ∨ 13 < d.kind then 5
  else if ((d.kind = 6 ∨ d.kind = 7 ∨ d.kind = 8) ∧ d.kids.length ≠ 1) ∨ ((d.kind = 10 ∨ d.kind = 11) ∧ d.kids.length < 1) ∨ (¬ (d.kind = 6 ∨ d.kind = 7 ∨ d.kind = 8) ∧ ¬ (d.kind = 10 ∨ d.kind = 11) ∧ 0 < d.kids.length) then 5
  else if (d.kind = 11 ∧ d.last.length ≠ d.kids.length) ∨ (d.kind ≠ 11 ∧ 0 < d.last.length) then 5
  else if ¬ (d.kind = 5 ↔ 0 < d.fields.length) ∨ (d.kind ≠ 9 ∧ 0 < d.cases.length) then 5
  else if (d.kind = 9 ∧ (d.reg = [] ∨ d.cases.length = 0)) ∨ (d.kind ≠ 9 ∧ (d.reg ≠ [] ∨ d.mod ≠ 0 ∨ d.els ≠ 0)) then 5
  else if d.kind = 9 ∧ d.els < -1 then 5
  else if 64 < d.kids.length ∨ 64 < d.fields.length ∨ 64 < d.cases.length then 2
  else plainD d
section
variable {ro : Ro} {own r : Chs} {K : Value → Ro → Chs → Prop} {g : Chunk → Chs}
theorem plain_ok {d : NodeD} {a : NodeA} (hk : K (.int .i64 (plainD d)) ro own) : CallOk Try.prog 30 #[.agg (nodeV d a).toArray] ro own K := by
  refine CallOk.intro (args := [_]) (rs := [_]) T_ok Try.func30 Try.call30 rfl rfl (by kernel_rfl) rfl rfl ?_
  repeat' (first
    | (show _ ∧ _; exact ⟨rfl, rfl, rfl⟩)
    | refine wkT ?_
    | (show OpOk _ _ _ _ _ _ _; first | refine opB (fun b => ?_) | refine opA (fun a' c' hc1 hc2 => ?_))
    | (show GJ _ _ _ _ _ _ _; first | (apply GJ.and; exact rfl; intro hg) | (apply GJ.or; exact rfl; intro hg))
    | refine SeqOk.pass ?_
    | refine Br.cases (fun h => ?_) (fun h => ?_)
    | (show GJ _ _ _ _ _ _ _; first | refine GJ.casesT (fun h => ?_) (fun h => ?_) | refine GJ.casesF (fun h => ?_) (fun h => ?_))
    | refine Bs.all ?_
    | (show QOk _ _ _ _ _ _ _; refine QOk.build rfl rfl Nf.auto ?_)
    | (show OpOk _ _ _ _ _ _ _; refine OpOk.neqStruct rfl rfl rfl rfl (by kernel_rfl) (by kernel_rfl) (by kernel_rfl) ?_)
    | (show CallOk _ _ _ _ _ _; first | refine width_ok ?_ | refine number_ok ?_ | refine smost_ok ?_))
  all_goals refine Wk.outV Sup.auto hk (congrArg (Value.int .i64) ?_)
  all_goals (unfold plainD; grind (splits := 50))
theorem form_ok {d : NodeD} {a : NodeA} (hk : K (.int .i64 (formD d)) ro own) : CallOk Try.prog 21 #[.agg (nodeV d a).toArray] ro own K := by
  refine CallOk.intro (args := [_]) (rs := [_]) T_ok Try.func21 Try.call21 rfl rfl (by kernel_rfl) rfl rfl ?_
  repeat' (first
    | (show _ ∧ _; exact ⟨rfl, rfl, rfl⟩)
    | refine wkT ?_
    | (show OpOk _ _ _ _ _ _ _; first | refine opB (fun b => ?_) | refine opA (fun a' c' hc1 hc2 => ?_))
    | (show GJ _ _ _ _ _ _ _; first | (apply GJ.and; exact rfl; intro hg) | (apply GJ.or; exact rfl; intro hg))
    | refine SeqOk.pass ?_
    | refine Br.cases (fun h => ?_) (fun h => ?_)
    | (show GJ _ _ _ _ _ _ _; first | refine GJ.casesT (fun h => ?_) (fun h => ?_) | refine GJ.casesF (fun h => ?_) (fun h => ?_))
    | refine Bs.all ?_
    | (show QOk _ _ _ _ _ _ _; refine QOk.build rfl rfl Nf.auto ?_)
    | (show OpOk _ _ _ _ _ _ _; refine OpOk.neqStruct rfl rfl rfl rfl (by kernel_rfl) (by kernel_rfl) (by kernel_rfl) ?_)
    | (show CallOk _ _ _ _ _ _; first | refine plain_ok ?_))
  all_goals refine Wk.outV Sup.auto hk (congrArg (Value.int .i64) ?_)
  all_goals (unfold formD; grind (splits := 50))
end
end Go.Proofs.Ytniofdklhlbphaa
