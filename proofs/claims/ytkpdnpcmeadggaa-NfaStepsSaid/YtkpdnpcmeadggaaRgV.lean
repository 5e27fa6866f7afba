/- What an expression reads as; the laws RegexChecks, RegexBack. -/
import Derived.Test.YtkpdnpcmeadggaaRgI
import Derived.Test.YtkpdnpcmeadggaaEn2
namespace Go.Proofs.Ytkpdnpcmeadggaa
open Go Go.E
set_option linter.unusedVariables false
set_option linter.unusedSimpArgs false
set_option maxRecDepth 10000
theorem read_set4 {ro : Ro} {cs : List Value} (h : Wf Try.prog ro 23 cs) : ∃ s : SetD, cs = setV s ∧ SetIn s := by
  have hl : cs.length = 4 := (Wf.array_inv Try.underlying23 h).1.trans (by kernel_rfl)
  have ha := (Wf.array_inv Try.underlying23 h).2
  rw [show Try.prog.cellsOf 22 = 1 by kernel_rfl] at ha
  match cs, hl, ha with
  | [v0, v1, v2, v3], _, ha =>
    obtain ⟨n0, rfl, w0⟩ := Wf.int_inv Try.underlying22 (ha 0 (by decide))
    obtain ⟨n1, rfl, w1⟩ := Wf.int_inv Try.underlying22 (ha 1 (by decide))
    obtain ⟨n2, rfl, w2⟩ := Wf.int_inv Try.underlying22 (ha 2 (by decide))
    obtain ⟨n3, rfl, w3⟩ := Wf.int_inv Try.underlying22 (ha 3 (by decide))
    obtain ⟨m0, rfl, b0⟩ := wf_u64 w0
    obtain ⟨m1, rfl, b1⟩ := wf_u64 w1
    obtain ⟨m2, rfl, b2⟩ := wf_u64 w2
    obtain ⟨m3, rfl, b3⟩ := wf_u64 w3
    refine ⟨⟨m0, m1, m2, m3⟩, rfl, fun k => ?_⟩
    unfold SetD.w
    dsimp only
    repeat' split
    all_goals assumption
theorem rgs_of {ro : Ro} : ∀ {css : List (List Value)}, (∀ (i : Nat) (x : List Value), css[i]? = some x → ∃ n, RgOk ro n x) → ∃ l, RgsOk ro l css.flatten ∧ l.length = css.length
  | [], _ => ⟨[], by rw [RgsOk]; rfl, rfl⟩
  | c :: css, h => by
    obtain ⟨n, hn⟩ := h 0 c rfl
    obtain ⟨l, hl, hlen⟩ := rgs_of (css := css) (fun i x hx => h (i + 1) x (by simpa using hx))
    exact ⟨n :: l, by rw [RgsOk]; exact ⟨c, css.flatten, rfl, hn, hl⟩, by simp [hlen]⟩
theorem read_rgx' {ro : Ro} {t : TypeId} {cs : List Value} (h : Wf Try.prog ro t cs) : (t = 26 → ∃ n, RgOk ro n cs) ∧ (t = 24 → ∃ l a c vs, cs = [.slice a l.length c] ∧ Rs ro a l.length c 8 vs ∧ RgsOk ro l vs) := by
  have hu := Try.underlying26
  have hu2 := Try.underlying24
  induction h with
  | bool h => exact ⟨fun e => (by subst e; rw [hu] at h; cases h), fun e => (by subst e; rw [hu2] at h; cases h)⟩
  | int h _ => exact ⟨fun e => (by subst e; rw [hu] at h; cases h), fun e => (by subst e; rw [hu2] at h; cases h)⟩
  | str h _ => exact ⟨fun e => (by subst e; rw [hu] at h; cases h), fun e => (by subst e; rw [hu2] at h; cases h)⟩
  | array h _ _ _ => exact ⟨fun e => (by subst e; rw [hu] at h; cases h), fun e => (by subst e; rw [hu2] at h; cases h)⟩
  | nought h h0 =>
    refine ⟨fun e => (by subst e; rw [hu] at h; cases h), fun e => ?_⟩
    subst e; rw [hu2] at h; cases h
    exact absurd h0 (by rw [show Try.prog.cellsOf 26 = 8 by kernel_rfl]; decide)
  | other h =>
    refine ⟨fun e => ?_, fun e => ?_⟩
    · subst e; exact absurd rfl ((h _ hu).2.2.2.2.1 _)
    · subst e; exact absurd rfl ((h _ hu2).2.2.2.1 _)
  | slice h h0 hr hl hs hw ih =>
    refine ⟨fun e => (by subst e; rw [hu] at h; cases h), fun e => ?_⟩
    subst e; rw [hu2] at h; cases h
    obtain ⟨l, h1, h2⟩ := rgs_of (fun i x hx => (ih i x hx).1 rfl)
    rw [show Try.prog.cellsOf 26 = 8 by kernel_rfl] at hr
    rw [hl] at h2
    exact ⟨l, _, _, _, by rw [h2], by rw [h2]; exact hr, h1⟩
  | @struct t fs cs h hl hw ih =>
    refine ⟨fun e => ?_, fun e => (by subst e; rw [hu2] at h; cases h)⟩
    subst e
    have hW : Wf Try.prog ro 26 cs := .struct h hl hw
    have hl : cs.length = 8 := hl.trans (by kernel_rfl)
    rw [hu] at h; cases h
    have i2 := (ih 2 _ rfl).2 rfl
    match cs, hl, hW, i2 with
    | [v0, v1, v2, v3, v4, v5, v6, v7], _, hW, i2 =>
      obtain ⟨n0, rfl, _⟩ := Wf.int_inv Try.underlying3 (Wf.fld (i := 0) (off := 0) (k := 1) hu hW rfl rfl rfl (by kernel_rfl))
      obtain ⟨z, hz, hzi⟩ := read_set4 (Wf.fld (i := 1) (off := 1) (k := 4) hu hW rfl rfl rfl (by kernel_rfl))
      obtain ⟨n6, rfl, _⟩ := Wf.int_inv Try.underlying3 (Wf.fld (i := 3) (off := 6) (k := 1) hu hW rfl rfl rfl (by kernel_rfl))
      obtain ⟨n7, rfl, _⟩ := Wf.int_inv Try.underlying3 (Wf.fld (i := 4) (off := 7) (k := 1) hu hW rfl rfl rfl (by kernel_rfl))
      obtain ⟨l, a, c, vs, e5, hrs, hks⟩ := i2
      have hz : [v1, v2, v3, v4] = setV z := hz
      have e5 : [v5] = [.slice a l.length c] := by
        have : (([.int .i64 n0, v1, v2, v3, v4, v5, .int .i64 n6, .int .i64 n7] : List Value).drop 5).take 1 = [v5] := rfl
        rw [← this]
        exact e5
      cases e5
      unfold setV at hz
      cases hz
      refine ⟨.mk n0 z l n6 n7, ?_⟩
      rw [RgOk]
      exact ⟨a, c, vs, rfl, hzi, hrs, hks⟩
theorem read_rgx {ro : Ro} {cs : List Value} (h : Wf Try.prog ro 26 cs) : ∃ n, RgOk ro n cs := (read_rgx' h).1 rfl
end Go.Proofs.Ytkpdnpcmeadggaa
