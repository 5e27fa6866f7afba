/- Readings of values turned round, shape by shape. No program in sight. -/
import Derived.Test.YtknfebfdehdapaaDoorWf
namespace Go.E
open Go
set_option linter.unusedVariables false
section
variable {P : Program} {ro : Ro} {t e : TypeId} {cs : List Value}
theorem Wf.struct_inv {fs : Array Field} (hu : P.underlying t = some (.struct fs)) (h : Wf P ro t cs) : cs.length = P.cellsOf t ∧ ∀ (i : Nat) (f : Field), fs.toList[i]? = some f → Wf P ro f.type ((cs.drop f.offset).take (P.cellsOf f.type)) := by
  cases h with
  | bool h => rw [hu] at h; cases h
  | int h => rw [hu] at h; cases h
  | str h => rw [hu] at h; cases h
  | slice h => rw [hu] at h; cases h
  | struct h hl hw => rw [hu] at h; cases h; exact ⟨hl, hw⟩
  | array h => rw [hu] at h; cases h
  | nought h => rw [hu] at h; cases h
  | other h => exact absurd rfl ((h _ hu).2.2.2.2.1 fs)
theorem Wf.fld {fs : Array Field} {f : Field} {i off k : Nat} {ft : TypeId} (hu : P.underlying t = some (.struct fs)) (h : Wf P ro t cs) (hf : fs.toList[i]? = some f) (ho : f.offset = off) (ht : f.type = ft) (hc : P.cellsOf ft = k) : Wf P ro ft ((cs.drop off).take k) := by
  subst ho; subst ht; subst hc; exact (Wf.struct_inv hu h).2 i f hf
theorem Wf.int_inv {k : IntKind} {v : Value} (hu : P.underlying t = some (.int k)) (h : Wf P ro t [v]) : ∃ n, v = .int k n ∧ (Lit.int k n).wf = true := by
  generalize e : [v] = cs at h
  cases h with
  | bool h => rw [hu] at h; cases h
  | int h hw => rw [hu] at h; cases h; cases e; exact ⟨_, rfl, hw⟩
  | str h => rw [hu] at h; cases h
  | slice h => rw [hu] at h; cases h
  | struct h hl hw => rw [hu] at h; cases h
  | array h => rw [hu] at h; cases h
  | nought h => rw [hu] at h; cases h
  | other h => exact absurd rfl ((h _ hu).1 k)
theorem Wf.bool_inv {v : Value} (hu : P.underlying t = some .bool) (h : Wf P ro t [v]) : ∃ b, v = .bool b := by
  generalize e : [v] = cs at h
  cases h with
  | bool h => cases e; exact ⟨_, rfl⟩
  | int h hw => rw [hu] at h; cases h
  | str h => rw [hu] at h; cases h
  | slice h => rw [hu] at h; cases h
  | struct h hl hw => rw [hu] at h; cases h
  | array h => rw [hu] at h; cases h
  | nought h => rw [hu] at h; cases h
  | other h => exact absurd rfl (h _ hu).2.1
theorem str_bytes (s : ByteArray) : Value.string s = Go.E.str s.data.toList := rfl
theorem Wf.str_inv {v : Value} (hu : P.underlying t = some .string) (h : Wf P ro t [v]) : ∃ l : List UInt8, v = Go.E.str l ∧ l.length ≤ reachBytes := by
  generalize e : [v] = cs at h
  cases h with
  | bool h => rw [hu] at h; cases h
  | int h hw => rw [hu] at h; cases h
  | str h hl => cases e; exact ⟨_, str_bytes _, hl⟩
  | slice h => rw [hu] at h; cases h
  | struct h hl hw => rw [hu] at h; cases h
  | array h => rw [hu] at h; cases h
  | nought h => rw [hu] at h; cases h
  | other h => exact absurd rfl (h _ hu).2.2.1
theorem Wf.slice_inv {v : Value} {s : Nat} (hu : P.underlying t = some (.slice e)) (hs : P.cellsOf e = s) (h0 : 0 < s) (h : Wf P ro t [v]) : ∃ (a : Option Addr) (n c : Nat) (css : List (List Value)), v = .slice a n c ∧ Rs ro a n c s css.flatten ∧ css.length = n ∧ ∀ (i : Nat) (x : List Value), css[i]? = some x → Wf P ro e x := by
  subst hs
  generalize e : [v] = cs at h
  cases h with
  | bool h => rw [hu] at h; cases h
  | int h hw => rw [hu] at h; cases h
  | str h => rw [hu] at h; cases h
  | slice h _ hr hl _ hw => rw [hu] at h; cases h; cases e; exact ⟨_, _, _, _, rfl, hr, hl, hw⟩
  | struct h hl hw => rw [hu] at h; cases h
  | array h => rw [hu] at h; cases h
  | nought h h1 => rw [hu] at h; cases h; omega
  | other h => exact absurd rfl ((h _ hu).2.2.2.1 _)
theorem Wf.array_inv {m : Nat} (hu : P.underlying t = some (.array m e)) (h : Wf P ro t cs) : cs.length = P.cellsOf t ∧ ∀ i, i < m → Wf P ro e ((cs.drop (i * P.cellsOf e)).take (P.cellsOf e)) := by
  cases h with
  | bool h => rw [hu] at h; cases h
  | int h => rw [hu] at h; cases h
  | str h => rw [hu] at h; cases h
  | slice h => rw [hu] at h; cases h
  | struct h hl hw => rw [hu] at h; cases h
  | array h hl hw => rw [hu] at h; cases h; exact ⟨hl, hw⟩
  | nought h => rw [hu] at h; cases h
  | other h => exact absurd rfl ((h _ hu).2.2.2.2.2 m e)
theorem okWide_array {w : World} {r : Reach} {base : Nat} {m : Nat} {v : Value} (hu : P.underlying t = some (.array m e)) (h : Value.okWide P w r base t v) : ∃ cs, v = .agg cs ∧ cs.size = P.cellsOf t := by
  simp only [Value.okWide, hu] at h
  obtain ⟨cs, h1, h2, _⟩ := h
  exact ⟨cs, h1, h2⟩
theorem all_read {α : Type} {V : α → List Value} {G : α → Prop} : ∀ {css : List (List Value)}, (∀ (i : Nat) (x : List Value), css[i]? = some x → ∃ f, x = V f ∧ G f) → ∃ l : List α, css = l.map V ∧ ∀ f ∈ l, G f
  | [], _ => ⟨[], rfl, fun _ h => by cases h⟩
  | x :: css, h => by
    obtain ⟨f, rfl, hf⟩ := h 0 x rfl
    obtain ⟨l, rfl, hl⟩ := all_read (css := css) (fun i x hx => h (i + 1) x hx)
    exact ⟨f :: l, rfl, fun g hg => by rcases List.mem_cons.1 hg with rfl | hg; exact hf; exact hl g hg⟩
end
end Go.E
