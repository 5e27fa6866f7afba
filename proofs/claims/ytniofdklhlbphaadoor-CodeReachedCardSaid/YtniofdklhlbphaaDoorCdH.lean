/- The law CodeReached: what is found round by round (no program). -/
import Derived.Test.YtniofdklhlbphaaDoorCdG
namespace Go.Proofs.YtniofdklhlbphaaDoor
open Go Go.E
set_option linter.unusedVariables false
set_option linter.unusedSimpArgs false
set_option maxRecDepth 10000
/-- Marks that are right. -/
structure Sound (p : ProgD) (o : List Bool) : Prop where
  len : o.length = p.steps.length
  ok : ∀ i : Nat, o[i]? = some true → Reach p i
  zero : o[0]? = some true
def Full (p : ProgD) (o : List Bool) : Prop := ∀ i, Reach p i → o[i]? = some true
/-- What can come behind step j is marked, if j is. -/
def ShutAt (p : ProgD) (o : List Bool) (j : Nat) : Prop := o[j]? = some true → ∀ s, p.steps[j]? = some s → ∀ k : Nat, (k : Int) ∈ followD s j → k < p.steps.length → o[k]? = some true
/-- Behind r rounds. -/
structure Round (p : ProgD) (r : Nat) (o : List Bool) : Prop where
  sound : Sound p o
  how : Full p o ∨ r + 1 ≤ o.count true
/-- Within a round, ahead of step i. -/
structure Sweep (p : ProgD) (r i : Nat) (o : List Bool) : Prop where
  sound : Sound p o
  how : Full p o ∨ r + 2 ≤ o.count true ∨ (r + 1 ≤ o.count true ∧ ∀ j, j < i → ShutAt p o j)
/-- Within step i of a round: what is in ks is marked. -/
structure Within (p : ProgD) (r i : Nat) (o : List Bool) (ks : Nat → Prop) : Prop where
  sound : Sound p o
  at' : o[i]? = some true
  how : Full p o ∨ r + 2 ≤ o.count true ∨ (r + 1 ≤ o.count true ∧ (∀ j, j < i → ShutAt p o j) ∧ ∀ k, ks k → k < p.steps.length → o[k]? = some true)
theorem count_mark : ∀ (o : List Bool) (k : Nat), o[k]? = some false → (o.set k true).count true = o.count true + 1
  | [], k, h => by simp at h
  | x :: o, 0, h => by simp at h; subst h; simp
  | x :: o, k + 1, h => by
    have := count_mark o k (by simpa using h)
    rw [List.set_cons_succ, List.count_cons, List.count_cons]; omega
theorem mark_same {o : List Bool} {k : Nat} (h : o[k]? = some true) : o.set k true = o := by
  apply List.ext_getElem?
  intro i
  by_cases e : k = i
  · subst e
    have hk := (List.getElem?_eq_some_iff.1 h).1
    rw [h]; simp [hk]
  · rw [List.getElem?_set_ne e]
theorem Sound.mark {p : ProgD} {o : List Bool} {k : Nat} (h : Sound p o) (hk : k < p.steps.length) (hr : Reach p k) : Sound p (o.set k true) where
  len := by simp [h.len]
  ok i hi := by
    rcases (mark_get (by rw [h.len]; exact hk) i).1 hi with rfl | hi
    · exact hr
    · exact h.ok i hi
  zero := (mark_get (by rw [h.len]; exact hk) 0).2 (.inr h.zero)
theorem Within.mark {p : ProgD} {r i k : Nat} {o : List Bool} {ks : Nat → Prop} (h : Within p r i o ks) (hk : k < p.steps.length) (hr : Reach p k) : Within p r i (o.set k true) (fun z => ks z ∨ z = k) where
  sound := h.sound.mark hk hr
  at' := (mark_get (by rw [h.sound.len]; exact hk) i).2 (.inr h.at')
  how := by
    have hkl : k < o.length := by rw [h.sound.len]; exact hk
    by_cases hm : o[k]? = some true
    · rw [mark_same hm]
      rcases h.how with h1 | h1 | ⟨h1, h2, h3⟩
      · exact .inl h1
      · exact .inr (.inl h1)
      · exact .inr (.inr ⟨h1, h2, fun z hz hzn => hz.elim (fun e => h3 z e hzn) (fun e => e ▸ hm)⟩)
    · have hf : o[k]? = some false := by
        rw [List.getElem?_eq_getElem hkl] at hm ⊢
        cases hq : o[k] with
        | false => rfl
        | true => exact absurd (by rw [hq]) hm
      have hc := count_mark o k hf
      rcases h.how with h1 | h1 | ⟨h1, _⟩
      · exact .inl fun z hz => (mark_get hkl z).2 (.inr (h1 z hz))
      · exact .inr (.inl (by omega))
      · exact .inr (.inl (by omega))
theorem Within.weaken {p : ProgD} {r i : Nat} {o : List Bool} {ks ks' : Nat → Prop} (h : Within p r i o ks) (hk : ∀ z, z < p.steps.length → ks' z → ks z) : Within p r i o ks' where
  sound := h.sound
  at' := h.at'
  how := h.how.imp id (fun h => h.imp id (fun ⟨h1, h2, h3⟩ => ⟨h1, h2, fun z hz hzn => h3 z (hk z hzn hz) hzn⟩))
theorem Sweep.within {p : ProgD} {r i : Nat} {o : List Bool} (h : Sweep p r i o) (hi : o[i]? = some true) : Within p r i o (fun _ => False) where
  sound := h.sound
  at' := hi
  how := h.how.imp id (fun h => h.imp id (fun ⟨h1, h2⟩ => ⟨h1, h2, fun z hz _ => hz.elim⟩))
theorem Within.done {p : ProgD} {r i : Nat} {o : List Bool} {s : StepD} {ks : Nat → Prop} (h : Within p r i o ks) (hs : p.steps[i]? = some s) (hk : ∀ k : Nat, (k : Int) ∈ followD s i → k < p.steps.length → ks k) : Sweep p r (i + 1) o where
  sound := h.sound
  how := h.how.imp id (fun h => h.imp id (fun ⟨h1, h2, h3⟩ => ⟨h1, fun j hj => by
    by_cases e : j = i
    · subst e
      intro _ s2 hs2 k hk1 hk2
      obtain rfl : s = s2 := Option.some.inj (hs.symm.trans hs2)
      exact h3 k (hk k hk1 hk2) hk2
    · exact h2 j (by omega)⟩))
theorem Sweep.skip {p : ProgD} {r i : Nat} {o : List Bool} (h : Sweep p r i o) (hi : o[i]? ≠ some true) : Sweep p r (i + 1) o where
  sound := h.sound
  how := h.how.imp id (fun h => h.imp id (fun ⟨h1, h2⟩ => ⟨h1, fun j hj => by
    by_cases e : j = i
    · subst e; intro h3; exact absurd h3 hi
    · exact h2 j (by omega)⟩))
theorem Round.sweep {p : ProgD} {r : Nat} {o : List Bool} (h : Round p r o) : Sweep p r 0 o where
  sound := h.sound
  how := h.how.imp id (fun h => .inr ⟨h, fun j hj => by omega⟩)
theorem Sweep.round {p : ProgD} {r : Nat} {o : List Bool} (h : Sweep p r p.steps.length o) : Round p (r + 1) o where
  sound := h.sound
  how := by
    rcases h.how with h1 | h1 | ⟨h1, h2⟩
    · exact .inl h1
    · exact .inr h1
    · refine .inl fun i hr => ?_
      induction hr with
      | first => exact h.sound.zero
      | @next i k s g1 g2 g3 g4 ih => exact h2 i (List.getElem?_eq_some_iff.1 g2).1 ih s g2 k g3 g4
theorem Round.init {p : ProgD} (hn : 0 < p.steps.length) : Round p 0 ((List.replicate p.steps.length false).set 0 true) where
  sound := ⟨(Found.init hn).len, (Found.init hn).ok, (Found.init hn).zero⟩
  how := .inr (by rw [count_mark _ _ (by simp [List.getElem?_replicate, hn])]; omega)
theorem Round.all {p : ProgD} {o : List Bool} (h : Round p p.steps.length o) (i : Nat) : o[i]? = some true ↔ Reach p i := by
  refine ⟨h.sound.ok i, fun hr => ?_⟩
  rcases h.how with h1 | h1
  · exact h1 i hr
  · have := List.count_le_length (a := true) (l := o)
    rw [h.sound.len] at this; omega
theorem kind_in {p : ProgD} {s : StepD} (h : rightD p s = true) : 1 ≤ s.kind ∧ s.kind ≤ 20 := by
  unfold rightD at h
  repeat' (split at h)
  all_goals first | omega | simp at h
end Go.Proofs.YtniofdklhlbphaaDoor
