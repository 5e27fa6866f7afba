/- The sets of an automaton's edges; bytes that none of them tells apart; plain. No program in sight. -/
import Derived.Test.YtkpdnpcmeadggaaNf3
namespace Go.Proofs.Ytkpdnpcmeadggaa
open Go Go.E
set_option linter.unusedVariables false
set_option maxRecDepth 10000
def addS (o : List SetD) (x : EdgeD) : List SetD := if x.free = true ∨ x.set ∈ o then o else o ++ [x.set]
def setsN (rows : RowsN) : List SetD := rows.foldl (fun o l => l.foldl addS o) []
theorem adds_mem {s : SetD} : ∀ (l : List EdgeD) (o : List SetD), s ∈ l.foldl addS o ↔ s ∈ o ∨ ∃ x ∈ l, x.free = false ∧ x.set = s
  | [], o => by simp
  | x :: l, o => by
    rw [List.foldl_cons, adds_mem l]
    have h : s ∈ addS o x ↔ s ∈ o ∨ (x.free = false ∧ x.set = s) := by
      unfold addS
      split
      · rename_i h
        constructor
        · exact .inl
        · rintro (h1 | ⟨h1, h2⟩)
          · exact h1
          · rcases h with h | h
            · rw [h1] at h; cases h
            · exact h2 ▸ h
      · rename_i h
        rw [List.mem_append, List.mem_singleton]
        have hf : x.free = false := by cases hh : x.free with
          | false => rfl
          | true => exact absurd (.inl hh) h
        exact ⟨fun h1 => h1.imp id (fun e => ⟨hf, e.symm⟩), fun h1 => h1.imp id (fun e => e.2.symm)⟩
    rw [h]
    constructor
    · rintro ((h1 | h1) | ⟨y, hy, h1⟩)
      · exact .inl h1
      · exact .inr ⟨x, by simp, h1⟩
      · exact .inr ⟨y, by simp [hy], h1⟩
    · rintro (h1 | ⟨y, hy, h1⟩)
      · exact .inl (.inl h1)
      · rcases List.mem_cons.1 hy with rfl | hy
        · exact .inl (.inr h1)
        · exact .inr ⟨y, hy, h1⟩
theorem adds_nodup : ∀ (l : List EdgeD) (o : List SetD), o.Nodup → (l.foldl addS o).Nodup
  | [], o, h => h
  | x :: l, o, h => by
    rw [List.foldl_cons]
    refine adds_nodup l _ ?_
    unfold addS
    split
    · exact h
    · rename_i hn
      exact List.nodup_append.2 ⟨h, by simp, fun a ha b hb e => by
        rw [List.mem_singleton] at hb
        subst hb; subst e
        exact hn (.inr ha)⟩
theorem rowsS_mem {s : SetD} : ∀ (rows : RowsN) (o : List SetD), s ∈ rows.foldl (fun o l => l.foldl addS o) o ↔ s ∈ o ∨ ∃ l ∈ rows, ∃ x ∈ l, x.free = false ∧ x.set = s
  | [], o => by simp
  | l :: rows, o => by
    rw [List.foldl_cons, rowsS_mem rows, adds_mem]
    constructor
    · rintro ((h | ⟨x, h⟩) | ⟨m, hm, h⟩)
      · exact .inl h
      · exact .inr ⟨l, by simp, x, h⟩
      · exact .inr ⟨m, by simp [hm], h⟩
    · rintro (h | ⟨m, hm, h⟩)
      · exact .inl (.inl h)
      · rcases List.mem_cons.1 hm with rfl | hm
        · exact .inl (.inr h)
        · exact .inr ⟨m, hm, h⟩
theorem sets_mem {rows : RowsN} {s : SetD} : s ∈ setsN rows ↔ ∃ l ∈ rows, ∃ x ∈ l, x.free = false ∧ x.set = s := by
  unfold setsN; rw [rowsS_mem]; simp
theorem sets_nodup (rows : RowsN) : (setsN rows).Nodup := by
  unfold setsN
  have : ∀ (rows : RowsN) (o : List SetD), o.Nodup → (rows.foldl (fun o l => l.foldl addS o) o).Nodup := by
    intro rows
    induction rows with
    | nil => exact fun o h => h
    | cons l rows ih => intro o h; rw [List.foldl_cons]; exact ih _ (adds_nodup l o h)
  exact this rows [] List.nodup_nil
/-- Bytes that no set tells apart lead to the same. -/
theorem byteTo_like {rows : RowsN} {c d : Nat} (h : ∀ s ∈ setsN rows, s.has c = s.has d) (i : Int) : byteTo rows c i = byteTo rows d i := by
  unfold byteTo
  split
  · congr 1
    cases hr : rows[i.toNat]? with
    | none => rfl
    | some row =>
      simp only [Option.getD_some]
      apply List.filter_congr
      intro x hx
      cases hf : x.free with
      | true => rfl
      | false =>
        have := h x.set (sets_mem.2 ⟨row, List.mem_of_getElem? hr, x, hx, hf, rfl⟩)
        rw [this]
  · rfl
theorem step_like {rows : RowsN} {c d : Nat} (h : ∀ s ∈ setsN rows, s.has c = s.has d) (list : List Int) : stepN rows list c = stepN rows list d := by
  unfold stepN
  congr 1
  rw [show byteTo rows c = byteTo rows d from funext fun i => byteTo_like h i]
/-! The sets are those of the expression's parts. -/
mutual
def onesN : RgD → List SetD
  | .mk k s l a b => if k = 2 then [s] else onesK l
def onesK : List RgD → List SetD
  | [] => []
  | x :: r => onesN x ++ onesK r
end

mutual
theorem ones_len : ∀ n : RgD, (onesN n).length ≤ sizeD n
  | .mk k s l a b => by
    rw [onesN, sizeD]
    split
    · simp
    · have := onesK_len l; omega
theorem onesK_len : ∀ l : List RgD, (onesK l).length ≤ sizeK l
  | [] => Nat.le_refl _
  | x :: r => by rw [onesK, sizeK, List.length_append]; have := ones_len x; have := onesK_len r; omega
end

theorem onesK_mem {l : List RgD} {x : RgD} (hx : x ∈ l) {s : SetD} (hs : s ∈ onesN x) : s ∈ onesK l := by
  induction l with
  | nil => cases hx
  | cons y l ih =>
    rw [onesK, List.mem_append]
    rcases List.mem_cons.1 hx with rfl | hx
    · exact .inl hs
    · exact .inr (ih hx)
/-- Each edge that came is free, or its set is one of these. -/
def SetsIn (O : SetD → Prop) (st : StD) : Prop := ∀ row ∈ st.rows, ∀ x ∈ row, x.free = true ∨ O x.set
theorem SetsIn.state {O : SetD → Prop} {st : StD} (h : SetsIn O st) : SetsIn O (stateN st).2 := by
  unfold stateN
  split
  · exact h
  · intro row hr x hx
    rcases List.mem_append.1 hr with hr | hr
    · exact h row hr x hx
    · rw [List.mem_singleton] at hr; subst hr; cases hx
theorem SetsIn.edge {O : SetD → Prop} {st : StD} (h : SetsIn O st) {f : Nat} {y : EdgeD} (hy : y.free = true ∨ O y.set) : SetsIn O (edgeN f y st) := by
  intro row hr x hx
  unfold edgeN at hr
  rcases List.mem_or_eq_of_mem_set hr with hr | rfl
  · exact h row hr x hx
  · rcases List.mem_append.1 hx with hx | hx
    · cases hg : st.rows[f]? with
      | none => rw [hg] at hx; cases hx
      | some r0 => rw [hg] at hx; exact h r0 (List.mem_of_getElem? hg) x hx
    · rw [List.mem_singleton] at hx; subst hx; exact hy
def SetsF (O : SetD → Prop) (f : NodeF) : Prop := ∀ (f0 : Nat) (st : StD), SetsIn O st → SetsIn O (f f0 st).2
theorem SetsF.min {O : SetD → Prop} {f : NodeF} (h : SetsF O f) : ∀ (k f0 : Nat) (st : StD), SetsIn O st → SetsIn O (minN f k f0 st).2.2
  | 0, f0, st, hs => hs
  | k + 1, f0, st, hs => by
    rw [minN]
    split
    · exact hs
    · exact SetsF.min h k _ _ (h f0 st hs)
theorem SetsF.max {O : SetD → Prop} {f : NodeF} (h : SetsF O f) (to : Nat) : ∀ (k f0 : Nat) (st : StD), SetsIn O st → SetsIn O (maxN f to k f0 st).2.2
  | 0, f0, st, hs => hs
  | k + 1, f0, st, hs => by
    rw [maxN]
    split
    · exact hs
    · exact SetsF.max h to k _ _ (h _ _ ((hs.edge (.inl rfl)).state.edge (.inl rfl)))
theorem sets_repeat {O : SetD → Prop} {f : NodeF} (h : SetsF O f) (a b : Int) : SetsF O (repeatN f a b) := by
  intro f0 st hs
  unfold repeatN
  have h1 := h.min a.toNat f0 st hs
  generalize minN f a.toNat f0 st = M at *
  obtain ⟨stop, f1, s1⟩ := M
  cases stop with
  | true => exact h1
  | false =>
    dsimp only at h1 ⊢
    split
    · unfold loopN
      exact (h _ _ ((h1.state.state.edge (.inl rfl)).edge (.inl rfl))).edge (.inl rfl)
    · have h2 := h.max (stateN s1).1 (b - a).toNat f1 (stateN s1).2 h1.state
      generalize maxN f (stateN s1).1 (b - a).toNat f1 (stateN s1).2 = M2 at *
      obtain ⟨stop, f2, s2⟩ := M2
      cases stop with
      | true => exact h2
      | false => exact SetsIn.edge h2 (.inl rfl)
theorem sets_alt {O : SetD → Prop} : ∀ (l : List RgD), (∀ x ∈ l, SetsF O (nodeN x)) → ∀ (f0 to : Nat) (st : StD), SetsIn O st → SetsIn O (altN l f0 to st)
  | [], _, f0, to, st, hs => by rw [altN]; exact hs
  | x :: l, h, f0, to, st, hs => by
    rw [altN]
    exact sets_alt l (fun y hy => h y (by simp [hy])) _ _ _ (SetsIn.edge (h x (by simp) _ _ (hs.state.edge (.inl rfl))) (.inl rfl))
theorem sets_cat {O : SetD → Prop} : ∀ (l : List RgD), (∀ x ∈ l, SetsF O (nodeN x)) → SetsF O (catN l)
  | [], _ => fun f0 st hs => by rw [catN]; exact hs
  | x :: l, h => fun f0 st hs => by
    rw [catN]
    exact sets_cat l (fun y hy => h y (by simp [hy])) _ _ (h x (by simp) f0 st hs)
theorem sets_node {O : SetD → Prop} : ∀ n : RgD, (∀ s ∈ onesN n, O s) → SetsF O (nodeN n) := RgD.ind fun k s l a b ih hO f0 st hs => by
  rw [nodeN]
  dsimp only
  split
  · exact hs
  split
  · rename_i h2
    rw [onesN, if_pos h2] at hO
    exact hs.state.edge (.inr (hO s (by simp)))
  rename_i h2
  rw [onesN, if_neg h2] at hO
  have hall : ∀ x ∈ l, SetsF O (nodeN x) := fun x hx => ih x hx fun z hz => hO z (onesK_mem hx hz)
  split
  · exact sets_cat l hall f0 st hs
  split
  · exact sets_alt l hall _ _ _ hs.state
  split
  · refine sets_repeat ?_ a b f0 st hs
    cases l with
    | nil => rw [kidN]; exact fun _ _ h => h
    | cons x l => rw [kidN]; exact hall x (by simp)
  · exact hs
theorem sets_few {n : RgD} : ∀ s ∈ setsN (makeN n).2.rows, s ∈ onesN n := by
  intro s hs
  obtain ⟨l, hl, x, hx, hf, rfl⟩ := sets_mem.1 hs
  have h0 : SetsIn (fun s => s ∈ onesN n) st0 := fun row hr x hx => by simp [st0] at hr; subst hr; cases hx
  have h := sets_node n (O := fun s => s ∈ onesN n) (fun s h => h) 0 st0 h0
  unfold makeN at hl
  split at hl
  · cases hl
  split at hl
  · cases hl
  · rcases h l hl x hx with h1 | h1
    · rw [hf] at h1; cases h1
    · exact h1
theorem nodup_le {α : Type} [DecidableEq α] : ∀ {a b : List α}, a.Nodup → (∀ x ∈ a, x ∈ b) → a.length ≤ b.length
  | [], b, _, _ => Nat.zero_le _
  | x :: a, b, hn, h => by
    obtain ⟨h1, h2⟩ := List.nodup_cons.1 hn
    have hx := h x (by simp)
    have := nodup_le (a := a) (b := b.erase x) h2 (fun y hy => (List.mem_erase_of_ne (show y ≠ x from fun e => h1 (e ▸ hy))).2 (h y (by simp [hy])))
    rw [List.length_erase_of_mem hx] at this
    have hp := List.length_pos_of_mem hx
    rw [List.length_cons]; omega
theorem sets_len (n : RgD) : (setsN (makeN n).2.rows).length ≤ sizeD n := Nat.le_trans (nodup_le (sets_nodup _) sets_few) (ones_len n)
end Go.Proofs.Ytkpdnpcmeadggaa
