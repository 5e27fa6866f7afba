/- What Split's pieces are. No program in sight. -/
import Derived.Test.YtkpdnpcmeadggaaDoorCC
namespace Go.Proofs.YtkpdnpcmeadggaaDoor
open Go Go.E
set_option linter.unusedVariables false
def emp (s : SetD) : Bool := decide (s = ⟨0, 0, 0, 0⟩)
theorem emp_iff {s : SetD} (hs : SetIn s) : emp s = true ↔ ∀ c, c < 256 → s.has c = false := by
  unfold emp
  rw [decide_eq_true_iff]
  constructor
  · intro h c _; rw [h]; exact SetD.has_zero c
  · intro h; exact SetD.ext hs SetIn.zero fun c hc => by rw [h c hc, SetD.has_zero]
theorem ne_has {s : SetD} (hs : SetIn s) (h : s ≠ ⟨0, 0, 0, 0⟩) : ∃ c, c < 256 ∧ s.has c = true := by
  apply Classical.byContradiction
  intro hn
  exact h (SetD.ext hs SetIn.zero fun c hc => by
    rw [SetD.has_zero]
    cases e : s.has c with
    | false => rfl
    | true => exact absurd ⟨c, hc, e⟩ hn)
theorem firstIs_has {s : SetD} {c : Nat} (h : s.firstIs c = true) : c < 256 ∧ s.has c = true ∧ ∀ j, j < c → s.has j = false := by
  unfold SetD.firstIs at h
  rw [beq_iff_eq, List.find?_range_eq_some] at h
  obtain ⟨h1, h2, h3⟩ := h
  exact ⟨List.mem_range.1 h2, h1, fun j hj => by simpa using h3 j hj⟩
theorem first_ex {s : SetD} (hs : SetIn s) (h : s ≠ ⟨0, 0, 0, 0⟩) : ∃ c, c < 256 ∧ s.firstIs c = true := by
  obtain ⟨c, hc, e⟩ := ne_has hs h
  cases hf : (List.range 256).find? s.has with
  | none => rw [List.find?_eq_none] at hf; exact absurd e (hf c (List.mem_range.2 hc))
  | some d => exact ⟨d, List.mem_range.1 (List.mem_of_find?_eq_some hf), by unfold SetD.firstIs; rw [hf]; simp⟩
/-- In which of the sets a byte is. -/
def sig (l : List SetD) (c : Nat) : List Bool := l.map (·.has c)
structure Cut (o l : List SetD) : Prop where
  each : ∀ q ∈ o, SetIn q ∧ q ≠ ⟨0, 0, 0, 0⟩
  all : ∀ c, c < 256 → ∃ p ∈ o, p.has c = true
  like : ∀ p ∈ o, ∀ c d, c < 256 → d < 256 → p.has c = true → (p.has d = true ↔ sig l c = sig l d)
  apart : o.Pairwise fun p q => ∀ c, c < 256 → ¬ (p.has c = true ∧ q.has c = true)
theorem Cut.one : Cut [allD] [] := ⟨fun q hq => by simp at hq; subst hq; exact ⟨SetIn.all, by decide⟩, fun c _ => ⟨allD, by simp, SetD.has_all c⟩, fun p hp c d _ _ _ => by simp at hp; subst hp; simp [SetD.has_all, sig], by simp⟩
theorem mem_cutD {s p q : SetD} (h : q ∈ cutD s p) : q ≠ ⟨0, 0, 0, 0⟩ ∧ (q = p.and s ∨ q = p.and s.not) := by
  unfold cutD at h
  obtain ⟨h1, h2⟩ := List.mem_filter.1 h
  exact ⟨by simpa using h2, by simpa using h1⟩
theorem has_cutD {s p q : SetD} (hs : SetIn s) (h : q ∈ cutD s p) : ∃ b, ∀ c, q.has c = (p.has c && (s.has c == b)) := by
  rcases (mem_cutD h).2 with rfl | rfl
  · exact ⟨true, fun c => by rw [SetD.has_and]; cases p.has c <;> cases s.has c <;> rfl⟩
  · exact ⟨false, fun c => by rw [SetD.has_and, SetD.has_not hs]; cases p.has c <;> cases s.has c <;> rfl⟩
theorem Cut.step {o l : List SetD} {s : SetD} (h : Cut o l) (hs : SetIn s) : Cut (stepD o s) (l ++ [s]) := by
  have sg : ∀ c, sig (l ++ [s]) c = sig l c ++ [s.has c] := fun c => by simp [sig]
  refine ⟨fun q hq => ?_, fun c hc => ?_, fun q hq c d hc hd hqc => ?_, ?_⟩
  · obtain ⟨p, hp, hq⟩ := List.mem_flatMap.1 hq
    exact cutD_in (h.each p hp).1 q hq
  · obtain ⟨p, hp, hpc⟩ := h.all c hc
    have key : ∀ q : SetD, q ∈ [p.and s, p.and s.not] → q.has c = true → ∃ q ∈ stepD o s, q.has c = true := fun q hq hqc => by
      refine ⟨q, List.mem_flatMap.2 ⟨p, hp, ?_⟩, hqc⟩
      unfold cutD
      refine List.mem_filter.2 ⟨hq, ?_⟩
      have : q ≠ ⟨0, 0, 0, 0⟩ := fun e => by rw [e, SetD.has_zero] at hqc; cases hqc
      simpa using this
    cases e : s.has c with
    | true => exact key (p.and s) (by simp) (by rw [SetD.has_and, hpc, e]; rfl)
    | false => exact key (p.and s.not) (by simp) (by rw [SetD.has_and, SetD.has_not hs, hpc, e]; rfl)
  · obtain ⟨p, hp, hq⟩ := List.mem_flatMap.1 hq
    obtain ⟨b, hb⟩ := has_cutD hs hq
    rw [hb] at hqc ⊢
    rw [Bool.and_eq_true, beq_iff_eq] at hqc
    have hl := h.like p hp c d hc hd hqc.1
    rw [sg, sg, Bool.and_eq_true, beq_iff_eq, hl]
    constructor
    · rintro ⟨h1, h2⟩; rw [h1, h2, hqc.2]
    · intro e
      obtain ⟨e1, e2⟩ := List.append_inj' e rfl
      rw [List.cons.injEq] at e2
      exact ⟨e1, by rw [← e2.1, hqc.2]⟩
  · refine List.pairwise_flatMap.2 ⟨fun p hp => ?_, h.apart.imp fun {p q} hpq x hx y hy c hc hxy => ?_⟩
    · unfold cutD
      refine List.Pairwise.filter _ ?_
      refine List.pairwise_cons.2 ⟨fun q hq c hc hpq => ?_, by simp⟩
      simp at hq
      subst hq
      rw [SetD.has_and, SetD.has_and, SetD.has_not hs, Bool.and_eq_true, Bool.and_eq_true] at hpq
      have h1 := hpq.1.2
      have h2 := hpq.2.2
      rw [h1] at h2
      cases h2
    · obtain ⟨b1, hb1⟩ := has_cutD hs hx
      obtain ⟨b2, hb2⟩ := has_cutD hs hy
      rw [hb1, hb2, Bool.and_eq_true, Bool.and_eq_true] at hxy
      exact hpq c hc ⟨hxy.1.1, hxy.2.1⟩
theorem Cut.fold : ∀ (l k : List SetD) (o : List SetD), Cut o k → (∀ s ∈ l, SetIn s) → Cut (l.foldl stepD o) (k ++ l)
  | [], k, o, h, _ => by simpa using h
  | s :: l, k, o, h, hs => by
    have := Cut.fold l (k ++ [s]) (stepD o s) (h.step (hs s (by simp))) (fun x hx => hs x (by simp [hx]))
    simpa using this
theorem mem_sortD {o : List SetD} (h : ∀ q ∈ o, SetIn q ∧ q ≠ ⟨0, 0, 0, 0⟩) {p : SetD} : p ∈ sortD o ↔ p ∈ o := by
  unfold sortD
  constructor
  · intro hp
    obtain ⟨c, _, hp⟩ := List.mem_flatMap.1 hp
    exact (List.mem_filter.1 hp).1
  · intro hp
    obtain ⟨c, hc, hf⟩ := first_ex (h p hp).1 (h p hp).2
    exact List.mem_flatMap.2 ⟨c, List.mem_range.2 hc, List.mem_filter.2 ⟨hp, hf⟩⟩
theorem sortD_rises {o : List SetD} (ha : o.Pairwise fun p q => ∀ c, c < 256 → ¬ (p.has c = true ∧ q.has c = true)) : (sortD o).Pairwise fun p q => ∃ c d, p.firstIs c = true ∧ q.firstIs d = true ∧ c < d := by
  unfold sortD
  refine List.pairwise_flatMap.2 ⟨fun c hc => ?_, ?_⟩
  · refine (List.Pairwise.filter _ ha).imp_of_mem fun {p q} hp hq hpq => ?_
    have h1 := firstIs_has (List.mem_filter.1 hp).2
    have h2 := firstIs_has (List.mem_filter.1 hq).2
    exact absurd ⟨h1.2.1, h2.2.1⟩ (hpq c h1.1)
  · exact List.pairwise_lt_range.imp fun {c d} hcd x hx y hy => ⟨c, d, (List.mem_filter.1 hx).2, (List.mem_filter.1 hy).2, hcd⟩
/-- What the law asks of the pieces. -/
structure Cuts (o l : List SetD) : Prop where
  each : ∀ q ∈ o, SetIn q ∧ q ≠ ⟨0, 0, 0, 0⟩
  all : ∀ c, c < 256 → ∃ p ∈ o, p.has c = true
  like : ∀ p ∈ o, ∀ c d, c < 256 → d < 256 → p.has c = true → (p.has d = true ↔ sig l c = sig l d)
  rises : o.Pairwise fun p q => ∃ c d, p.firstIs c = true ∧ q.firstIs d = true ∧ c < d
theorem splitD_cuts {l : List SetD} (hs : ∀ s ∈ l, SetIn s) : Cuts (splitD l) l := by
  have h := Cut.fold l [] [allD] Cut.one hs
  rw [List.nil_append] at h
  rw [splitD_eq]
  refine ⟨fun q hq => h.each q ((mem_sortD h.each).1 hq), fun c hc => ?_, fun p hp => h.like p ((mem_sortD h.each).1 hp), sortD_rises h.apart⟩
  obtain ⟨p, hp, hpc⟩ := h.all c hc
  exact ⟨p, (mem_sortD h.each).2 hp, hpc⟩
theorem Cuts.same {o l : List SetD} (h : Cuts o l) {p q : SetD} (hp : p ∈ o) (hq : q ∈ o) {c : Nat} (hc : c < 256) (h1 : p.has c = true) (h2 : q.has c = true) : p = q :=
  SetD.ext (h.each p hp).1 (h.each q hq).1 fun d hd => by
    rw [Bool.eq_iff_iff, h.like p hp c d hc hd h1, h.like q hq c d hc hd h2]
theorem firstIs_eq {p : SetD} {c d : Nat} (h1 : p.firstIs c = true) (h2 : p.firstIs d = true) : c = d := by
  unfold SetD.firstIs at h1 h2
  rw [beq_iff_eq] at h1 h2
  rw [h1] at h2
  exact Option.some.inj h2
theorem Cuts.at {o l : List SetD} (h : Cuts o l) {i j : Nat} {p q : SetD} (hij : i < j) (hp : o[i]? = some p) (hq : o[j]? = some q) : (∃ c d, p.firstIs c = true ∧ q.firstIs d = true ∧ c < d) ∧ ∀ c, c < 256 → ¬ (p.has c = true ∧ q.has c = true) := by
  obtain ⟨hi, ei⟩ := List.getElem?_eq_some_iff.1 hp
  obtain ⟨hj, ej⟩ := List.getElem?_eq_some_iff.1 hq
  have hr := List.pairwise_iff_getElem.1 h.rises i j hi hj hij
  rw [ei, ej] at hr
  refine ⟨hr, fun c hc hpq => ?_⟩
  have := h.same (List.mem_of_getElem? hp) (List.mem_of_getElem? hq) hc hpq.1 hpq.2
  subst this
  obtain ⟨x, y, hx, hy, hxy⟩ := hr
  have := firstIs_eq hx hy
  omega
theorem Cuts.rank {o l : List SetD} (h : Cuts o l) : ∀ (i : Nat) (p : SetD) (c : Nat), o[i]? = some p → p.firstIs c = true → i ≤ c
  | 0, _, _, _, _ => Nat.zero_le _
  | i + 1, p, c, hp, hc => by
    have hi : i < o.length := by have := (List.getElem?_eq_some_iff.1 hp).1; omega
    obtain ⟨x, y, hx, hy, hxy⟩ := (h.at (Nat.lt_succ_self i) (List.getElem?_eq_getElem hi) hp).1
    have h1 := h.rank i _ x (List.getElem?_eq_getElem hi) hx
    have := firstIs_eq hy hc
    omega
theorem Cuts.len {o l : List SetD} (h : Cuts o l) : o.length ≤ 256 := by
  rcases Nat.lt_or_ge 256 o.length with hl | hl
  · have hg : o[256]? = some o[256] := List.getElem?_eq_getElem hl
    obtain ⟨c, hc, hf⟩ := first_ex (h.each _ (List.mem_of_getElem? hg)).1 (h.each _ (List.mem_of_getElem? hg)).2
    have := h.rank 256 _ c hg hf
    omega
  · exact hl
theorem sig_at {l : List SetD} {c d : Nat} (h : sig l c = sig l d) {s : SetD} (hs : s ∈ l) : s.has c = s.has d := by
  unfold sig at h
  exact List.map_inj_left.1 h s hs
theorem sig_ne : ∀ {l : List SetD} {c d : Nat}, sig l c ≠ sig l d → ∃ s ∈ l, s.has c ≠ s.has d
  | [], _, _, h => absurd rfl h
  | s :: l, c, d, h => by
    by_cases e : s.has c = s.has d
    · have : sig l c ≠ sig l d := fun h2 => h (by simp only [sig, List.map_cons] at h2 ⊢; rw [e, h2])
      obtain ⟨x, hx, hn⟩ := sig_ne this
      exact ⟨x, by simp [hx], hn⟩
    · exact ⟨s, by simp, e⟩
/-- A piece lies within each set, or without. -/
theorem Cuts.within {o l : List SetD} (h : Cuts o l) {p s : SetD} (hp : p ∈ o) (hs : s ∈ l) : p.and s = ⟨0, 0, 0, 0⟩ ∨ p.and s = p := by
  by_cases e : p.and s = ⟨0, 0, 0, 0⟩
  · exact .inl e
  · have hpi := (h.each p hp).1
    obtain ⟨c, hc, hcc⟩ := ne_has hpi.and e
    rw [SetD.has_and, Bool.and_eq_true] at hcc
    refine .inr (SetD.ext hpi.and hpi fun d hd => ?_)
    rw [SetD.has_and]
    cases hd2 : p.has d with
    | false => rfl
    | true =>
      have := sig_at ((h.like p hp c d hc hd hcc.1).1 hd2) hs
      rw [← this, hcc.2]; rfl
/-- Two pieces are told apart by a set. -/
theorem Cuts.told {o l : List SetD} (h : Cuts o l) {i j : Nat} {p q : SetD} (hij : i < j) (hp : o[i]? = some p) (hq : o[j]? = some q) : ∃ s ∈ l, emp (p.and s) ≠ emp (q.and s) := by
  have hpm := List.mem_of_getElem? hp
  have hqm := List.mem_of_getElem? hq
  obtain ⟨c, hc, hpc⟩ := ne_has (h.each p hpm).1 (h.each p hpm).2
  obtain ⟨d, hd, hqd⟩ := ne_has (h.each q hqm).1 (h.each q hqm).2
  have hap := (h.at hij hp hq).2
  have hne : sig l c ≠ sig l d := fun e => hap d hd ⟨(h.like p hpm c d hc hd hpc).2 e, hqd⟩
  obtain ⟨s, hs, hn⟩ := sig_ne hne
  refine ⟨s, hs, ?_⟩
  have key : ∀ (x : SetD) (e : Nat), x ∈ o → e < 256 → x.has e = true → emp (x.and s) = !s.has e := fun x e hx he hxe => by
    rcases h.within hx hs with h1 | h1
    · have : s.has e = false := by
        have h2 := SetD.has_and x s e
        rw [h1, SetD.has_zero, hxe] at h2
        simpa using h2.symm
      rw [this, h1]; rfl
    · have : s.has e = true := by
        have h2 := SetD.has_and x s e
        rw [h1, hxe] at h2
        simpa using h2.symm
      rw [this, h1]
      exact decide_eq_false (h.each x hx).2
  rw [key p c hpm hc hpc, key q d hqm hd hqd]
  intro e
  exact hn (by simpa using e)
end Go.Proofs.YtkpdnpcmeadggaaDoor
