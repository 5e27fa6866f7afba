/- The law SpecBuilds: its contract. -/
import Derived.Test.YtniofdklhlbphaaSpG
namespace Go.Proofs.Ytniofdklhlbphaa
open Go Go.E
set_option linter.unusedVariables false
set_option maxRecDepth 10000
section
variable {ro : Ro} {own r : Chs} {K : Value → Ro → Chs → Prop} {g : Chunk → Chs}
theorem FewD.sm {d : NodeD} (h : FewD d) : NodeSm d := by unfold FewD at h; exact ⟨by omega, by omega, by omega, by omega⟩
theorem take_snoc {α : Type} {l : List α} {i : Nat} {d : α} (h : l[i]? = some d) : l.take (i + 1) = l.take i ++ [d] := by rw [List.take_add_one, h]; rfl
theorem defs_in {s : SpecD} (h : checkD s = 0) : ∀ d ∈ s.defs, 0 ≤ d.type ∧ d.type < (s.nodes.length : Int) := fun d hd => by
  obtain ⟨o, o', _, h2, _⟩ := checkD_ok h
  exact ownAll_mem h2 d.type (List.mem_map.2 ⟨d, hd, rfl⟩)
end
end Go.Proofs.Ytniofdklhlbphaa
