/- Contracts of class: Split. -/
import Derived.Test.YtkpdnpcmeadggaaCA
namespace Go.Proofs.Ytkpdnpcmeadggaa
open Go Go.E
set_option linter.unusedVariables false
set_option maxRecDepth 10000
def stepD (o : List SetD) (s : SetD) : List SetD := o.flatMap (cutD s)
theorem splitD_eq (l : List SetD) : splitD l = sortD (l.foldl stepD [allD]) := rfl
/-- Pieces: none is empty; together they are all bytes. -/
structure Pieces (o : List SetD) : Prop where
  each : ∀ q ∈ o, SetIn q ∧ q ≠ ⟨0, 0, 0, 0⟩
  sum : sumL o = 256
theorem Pieces.len {o : List SetD} (h : Pieces o) : o.length ≤ 256 := by have := sumL_ge h.each; have := h.sum; omega
theorem Pieces.one : Pieces [allD] := ⟨fun q hq => by simp at hq; subst hq; exact ⟨SetIn.all, by decide⟩, by decide +kernel⟩
theorem sumL_flat {s : SetD} (hs : SetIn s) : ∀ {o : List SetD}, (∀ q ∈ o, SetIn q) → sumL (o.flatMap (cutD s)) = sumL o
  | [], _ => rfl
  | p :: o, h => by
    rw [List.flatMap_cons, sumL_append, sumL_flat hs (fun q hq => h q (by simp [hq])), cutD_sum hs (h p (by simp))]
    simp [sumL]
theorem Pieces.step {o : List SetD} {s : SetD} (h : Pieces o) (hs : SetIn s) : Pieces (stepD o s) := ⟨fun q hq => by
  obtain ⟨p, hp, hq⟩ := List.mem_flatMap.1 hq
  exact cutD_in (h.each p hp).1 q hq, by rw [stepD, sumL_flat hs (fun q hq => (h.each q hq).1)]; exact h.sum⟩
/-- Some of the pieces' cuts. -/
theorem Pieces.part {o : List SetD} {s : SetD} {j : Nat} (h : Pieces o) (hs : SetIn s) : ((o.take j).flatMap (cutD s)).length ≤ 256 := by
  have h1 := (h.step hs).len
  have h2 : stepD o s = (o.take j).flatMap (cutD s) ++ (o.drop j).flatMap (cutD s) := by rw [stepD, ← List.flatMap_append, List.take_append_drop]
  rw [h2, List.length_append] at h1
  omega
section
variable {ro : Ro} {own r : Chs} {K : Value → Ro → Chs → Prop} {g : Chunk → Chs}
end
end Go.Proofs.Ytkpdnpcmeadggaa
