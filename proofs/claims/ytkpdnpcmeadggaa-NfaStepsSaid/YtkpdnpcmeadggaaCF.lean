/- What a set, and a list of sets, read as; the table out of what is laid. -/
import Derived.Test.YtkpdnpcmeadggaaEn2
import Derived.Test.YtkpdnpcmeadggaaC9
import Derived.Lib.LaidTab
namespace Go.Proofs.Ytkpdnpcmeadggaa
open Go Go.E
set_option linter.unusedVariables false
set_option maxRecDepth 10000
section
variable {ro : Ro} {cs : List Value}
theorem read_u64 {v : Value} (h : Wf Try.prog ro 22 [v]) : ∃ n : Nat, v = wV n ∧ n < 18446744073709551616 := by
  obtain ⟨n, rfl, w⟩ := Wf.int_inv Try.underlying22 h
  obtain ⟨m, rfl, b⟩ := wf_u64 w
  exact ⟨m, rfl, b⟩
theorem read_set (h : Wf Try.prog ro 64 cs) : ∃ s : SetD, cs = setV s ∧ SetIn s := by
  obtain ⟨hl, hw⟩ := Wf.array_inv Try.underlying64 h
  have hl4 : cs.length = 4 := hl.trans (by kernel_rfl)
  have hc : Try.prog.cellsOf 22 = 1 := by kernel_rfl
  rw [hc] at hw
  match cs, hl4, hw with
  | [v0, v1, v2, v3], _, hw =>
    obtain ⟨a, rfl, ha⟩ := read_u64 (hw 0 (by decide))
    obtain ⟨b, rfl, hb⟩ := read_u64 (hw 1 (by decide))
    obtain ⟨c, rfl, hc⟩ := read_u64 (hw 2 (by decide))
    obtain ⟨d, rfl, hd⟩ := read_u64 (hw 3 (by decide))
    exact ⟨⟨a, b, c, d⟩, rfl, fun k => by unfold SetD.w; dsimp only; split; exact ha; split; exact hb; split; exact hc; exact hd⟩
theorem flat_sets (l : List SetD) : (l.map setV).flatten = setsV l := by simp [setsV, List.flatMap]
theorem read_sets {a : Option Addr} {n c : Nat} (h : Wf Try.prog ro 52 [.slice a n c]) : ∃ l : List SetD, Rs ro a n c 4 (setsV l) ∧ l.length = n ∧ ∀ s ∈ l, SetIn s := by
  obtain ⟨a', n', c', css, e, hr, hl, hw⟩ := Wf.slice_inv (s := 4) Try.underlying52 (by kernel_rfl) (by decide) h
  cases e
  obtain ⟨l, rfl, hs⟩ := all_read (V := setV) (G := SetIn) fun i x hx => read_set (hw i x hx)
  rw [flat_sets] at hr
  exact ⟨l, hr, by simpa using hl, hs⟩
end
end Go.Proofs.Ytkpdnpcmeadggaa
