/- Automata of expressions as data: how one is made, how many states it has. No program in sight. -/
import Derived.Test.YtkpdnpcmeadggaaRxx
namespace Go.Proofs.Ytkpdnpcmeadggaa
open Go Go.E
set_option linter.unusedVariables false
set_option maxRecDepth 10000
structure EdgeD where
  to : Nat
  set : SetD
  free : Bool
deriving DecidableEq
/-- What is made: of each state its edges; whether there was no room. -/
structure StD where
  rows : List (List EdgeD)
  full : Bool
deriving DecidableEq
def freeE (to : Nat) : EdgeD := ⟨to, zeroS, true⟩
def setE (to : Nat) (s : SetD) : EdgeD := ⟨to, s, false⟩
def stateN (st : StD) : Nat × StD := if st.rows.length = 4096 then (0, { st with full := true }) else (st.rows.length, { st with rows := st.rows ++ [[]] })
def edgeN (from' : Nat) (x : EdgeD) (st : StD) : StD := { st with rows := st.rows.set from' ((st.rows[from']?.getD []) ++ [x]) }
abbrev NodeF := Nat → StD → Nat × StD
/-- So many times at least: whether there was no room ahead of one. -/
def minN (f : NodeF) : Nat → Nat → StD → Bool × Nat × StD
  | 0, from', st => (false, from', st)
  | k + 1, from', st => if st.full then (true, 0, st) else minN f k (f from' st).1 (f from' st).2
def oneN (f : NodeF) (to : Nat) (from' : Nat) (st : StD) : Nat × StD :=
  f (stateN (edgeN from' (freeE to) st)).1 (edgeN from' (freeE (stateN (edgeN from' (freeE to) st)).1) (stateN (edgeN from' (freeE to) st)).2)
def maxN (f : NodeF) (to : Nat) : Nat → Nat → StD → Bool × Nat × StD
  | 0, from', st => (false, from', st)
  | k + 1, from', st => if st.full then (true, 0, st) else maxN f to k (oneN f to from' st).1 (oneN f to from' st).2
def loopN (f : NodeF) (to from' : Nat) (st : StD) : StD :=
  let r := stateN st
  let p := f r.1 (edgeN r.1 (freeE to) (edgeN from' (freeE r.1) r.2))
  edgeN p.1 (freeE r.1) p.2
def repeatN (f : NodeF) (a b : Int) (from' : Nat) (st : StD) : Nat × StD :=
  match minN f a.toNat from' st with
  | (true, _, s1) => (0, s1)
  | (false, f1, s1) =>
    if b < 0 then ((stateN s1).1, loopN f (stateN s1).1 f1 (stateN s1).2)
    else match maxN f (stateN s1).1 (b - a).toNat f1 (stateN s1).2 with
      | (true, _, s2) => (0, s2)
      | (false, f2, s2) => ((stateN s1).1, edgeN f2 (freeE (stateN s1).1) s2)
mutual
def nodeN : RgD → Nat → StD → Nat × StD
  | .mk k s l a b => fun from' st => if st.full then (0, st)
    else if k = 2 then ((stateN st).1, edgeN from' (setE (stateN st).1 s) (stateN st).2)
    else if k = 3 then catN l from' st
    else if k = 4 then ((stateN st).1, altN l from' (stateN st).1 (stateN st).2)
    else if k = 5 then repeatN (kidN l) a b from' st
    else (from', st)
def catN : List RgD → Nat → StD → Nat × StD
  | [] => fun from' st => (from', st)
  | x :: r => fun from' st => catN r (nodeN x from' st).1 (nodeN x from' st).2
def altN : List RgD → Nat → Nat → StD → StD
  | [] => fun _ _ st => st
  | x :: r => fun from' to st =>
    let p := nodeN x (stateN st).1 (edgeN from' (freeE (stateN st).1) (stateN st).2)
    altN r from' to (edgeN p.1 (freeE to) p.2)
def kidN : List RgD → Nat → StD → Nat × StD
  | [] => fun from' st => (from', st)
  | x :: _ => fun from' st => nodeN x from' st
end

mutual
def cntN : RgD → Nat
  | .mk k _ l a b => if k = 2 then 1 else if k = 3 then sumN l else if k = 4 then 1 + altsN l
    else if k = 5 then a.toNat * kidC l + 1 + (if b < 0 then 1 + kidC l else (b - a).toNat * (1 + kidC l)) else 0
def sumN : List RgD → Nat
  | [] => 0
  | x :: r => cntN x + sumN r
def altsN : List RgD → Nat
  | [] => 0
  | x :: r => (1 + cntN x) + altsN r
def kidC : List RgD → Nat
  | [] => 0
  | x :: _ => cntN x
end
/-! How states and edges come. -/
def edgesN (st : StD) : Nat := (st.rows.map List.length).sum
/-- What holds of all that is made. -/
structure StOk (st : StD) : Prop where
  pos : 1 ≤ st.rows.length
  le : st.rows.length ≤ 4096
  to : ∀ row ∈ st.rows, ∀ x ∈ row, x.to < st.rows.length
  full : st.full = true → st.rows.length = 4096
theorem state_len (st : StD) : (stateN st).2.rows.length = if st.rows.length = 4096 then 4096 else st.rows.length + 1 := by
  unfold stateN; split
  · rename_i h; exact h
  · simp
theorem state_lt {st : StD} (h : StOk st) : (stateN st).1 < (stateN st).2.rows.length := by
  have := h.pos
  unfold stateN; split
  · show 0 < _; exact this
  · simp
theorem state_grow (st : StD) : st.rows.length ≤ (stateN st).2.rows.length := by rw [state_len]; split <;> omega
theorem StOk.state {st : StD} (h : StOk st) : StOk (stateN st).2 := by
  have hl := state_len st
  have hp := h.pos
  have hle := h.le
  refine ⟨by rw [hl]; split <;> omega, by rw [hl]; split <;> omega, ?_, ?_⟩
  · intro row hr x hx
    rw [hl]
    unfold stateN at hr
    split at hr
    · rename_i e; rw [if_pos e]; have := h.to row hr x hx; omega
    · rename_i e; rw [if_neg e]
      rcases List.mem_append.1 hr with hr | hr
      · have := h.to row hr x hx; omega
      · rw [List.mem_singleton] at hr; subst hr; cases hx
  · intro hf
    rw [hl]
    unfold stateN at hf
    split at hf
    · rename_i e; rw [if_pos e]
    · rename_i e; exact absurd (h.full hf) e
theorem edge_len (f : Nat) (x : EdgeD) (st : StD) : (edgeN f x st).rows.length = st.rows.length := by unfold edgeN; simp
theorem edge_full (f : Nat) (x : EdgeD) (st : StD) : (edgeN f x st).full = st.full := rfl
theorem StOk.edge {st : StD} (h : StOk st) {f : Nat} {x : EdgeD} (hx : x.to < st.rows.length) : StOk (edgeN f x st) := by
  refine ⟨by rw [edge_len]; exact h.pos, by rw [edge_len]; exact h.le, ?_, by rw [edge_len]; exact h.full⟩
  intro row hr y hy
  rw [edge_len]
  unfold edgeN at hr
  rcases List.mem_or_eq_of_mem_set hr with hr | rfl
  · exact h.to row hr y hy
  · rcases List.mem_append.1 hy with hy | hy
    · cases hg : st.rows[f]? with
      | none => rw [hg] at hy; cases hy
      | some r0 => rw [hg] at hy; exact h.to r0 (List.mem_of_getElem? hg) y hy
    · rw [List.mem_singleton] at hy; subst hy; exact hx
theorem sum_set : ∀ (l : List Nat) (i : Nat) (v : Nat), (l.set i v).sum + (l[i]?.getD 0) ≤ l.sum + v
  | [], i, v => by simp
  | x :: l, 0, v => by simp; omega
  | x :: l, i + 1, v => by
    have := sum_set l i v
    rw [List.set_cons_succ, List.sum_cons, List.sum_cons, List.getElem?_cons_succ]; omega
theorem edges_edge (f : Nat) (x : EdgeD) (st : StD) : edgesN (edgeN f x st) ≤ edgesN st + 1 := by
  unfold edgesN edgeN
  rw [List.map_set, List.length_append, List.length_singleton]
  have h := sum_set (st.rows.map List.length) f ((st.rows[f]?.getD []).length + 1)
  rw [List.getElem?_map] at h
  cases hg : st.rows[f]? with
  | none =>
    rw [hg] at h
    have hl : st.rows.length ≤ f := List.getElem?_eq_none_iff.1 hg
    rw [List.set_eq_of_length_le (by simpa using hl)]; omega
  | some r => rw [hg] at h; simp only [Option.getD_some, Option.map_some] at h ⊢; omega
theorem edges_state (st : StD) : edgesN (stateN st).2 = edgesN st := by
  unfold stateN edgesN; split
  · rfl
  · simp
theorem row_edges {st : StD} {f : Nat} {r : List EdgeD} (h : st.rows[f]? = some r) : r.length ≤ edgesN st := by
  unfold edgesN
  have hm : r.length ∈ st.rows.map List.length := List.mem_map_of_mem (List.mem_of_getElem? h)
  generalize st.rows.map List.length = l at hm
  induction l with
  | nil => cases hm
  | cons x l ih =>
    rw [List.sum_cons]
    rcases List.mem_cons.1 hm with rfl | hm
    · omega
    · have := ih hm; omega
/-- What a piece of making does: states come, each edge leads to one; its edges are told by the states that came, and by its size where there was no room; how many came, where there was. -/
structure Made (c s : Nat) (st : StD) (p : Nat × StD) : Prop where
  ok : StOk p.2
  lt : p.1 < p.2.rows.length
  grow : st.rows.length ≤ p.2.rows.length
  keep : st.full = true → p.2.full = true
  edges0 : p.2.full = false → edgesN p.2 ≤ edgesN st + 4 * (p.2.rows.length - st.rows.length)
  edges1 : edgesN p.2 ≤ edgesN st + 4 * (p.2.rows.length - st.rows.length) + 4 * s
  len : p.2.full = false → p.2.rows.length = st.rows.length + c
  room : st.full = false → st.rows.length + c ≤ 4096 → p.2.full = false
def MadeF (c s : Nat) (f : NodeF) : Prop := ∀ (from' : Nat) (st : StD), StOk st → from' < st.rows.length → Made c s st (f from' st) ∧ (st.full = true → edgesN (f from' st).2 = edgesN st)
theorem Made.le {c s s2 : Nat} {st : StD} {p : Nat × StD} (h : Made c s st p) (hs : s ≤ s2) : Made c s2 st p :=
  ⟨h.ok, h.lt, h.grow, h.keep, h.edges0, Nat.le_trans h.edges1 (by omega), h.len, h.room⟩
theorem Made.refl {st : StD} {f : Nat} (h : StOk st) (hf : f < st.rows.length) : Made 0 0 st (f, st) := ⟨h, hf, Nat.le_refl _, id, fun _ => Nat.le_add_right _ _, Nat.le_trans (Nat.le_add_right _ _) (Nat.le_add_right _ _), fun _ => rfl, fun h _ => h⟩
theorem Made.stay {c s f : Nat} {st : StD} (h : StOk st) (hf : f < st.rows.length) (hu : st.full = true) : Made c s st (f, st) :=
  ⟨h, hf, Nat.le_refl _, id, fun _ => Nat.le_add_right _ _, Nat.le_trans (Nat.le_add_right _ _) (Nat.le_add_right _ _), (fun e => absurd (hu.symm.trans e) (by decide)), (fun e => absurd (hu.symm.trans e) (by decide))⟩
theorem full_len {st st2 : StD} (h : StOk st) (h2 : StOk st2) (hg : st.rows.length ≤ st2.rows.length) (hf : st.full = true) : st2.rows.length = st.rows.length := by
  have := h.full hf; have := h2.le; omega
/-- One piece, and another one behind it, which does nothing where there is no room. -/
theorem Made.then {c1 s1 c2 s2 : Nat} {st : StD} {p q : Nat × StD} (h1 : Made c1 s1 st p) (h2 : Made c2 s2 p.2 q) (hq : p.2.full = true → edgesN q.2 = edgesN p.2) : Made (c1 + c2) (s1 + s2) st q := by
  have g1 := h1.grow
  have g2 := h2.grow
  refine ⟨h2.ok, h2.lt, by omega, fun e => h2.keep (h1.keep e), fun e => ?_, ?_, fun e => ?_, fun e hr => ?_⟩
  · have e1 : p.2.full = false := by cases h : p.2.full with
      | false => rfl
      | true => rw [h2.keep h] at e; cases e
    have := h1.edges0 e1; have := h2.edges0 e; omega
  · cases h : p.2.full with
    | false => have := h1.edges0 h; have := h2.edges1; omega
    | true => have := h1.edges1; have := hq h; have := full_len h1.ok h2.ok g2 h; omega
  · have e1 : p.2.full = false := by cases h : p.2.full with
      | false => rfl
      | true => rw [h2.keep h] at e; cases e
    have := h1.len e1; have := h2.len e; omega
  · have e1 := h1.room e (by omega)
    have := h1.len e1
    exact h2.room e1 (by omega)
theorem MadeF.then {c1 s1 c2 s2 : Nat} {f g : NodeF} (h1 : MadeF c1 s1 f) (h2 : MadeF c2 s2 g) : MadeF (c1 + c2) (s1 + s2) (fun f0 st => g (f f0 st).1 (f f0 st).2) := fun f0 st ho hf => by
  obtain ⟨a1, b1⟩ := h1 f0 st ho hf
  obtain ⟨a2, b2⟩ := h2 (f f0 st).1 (f f0 st).2 a1.ok a1.lt
  exact ⟨a1.then a2 b2, fun e => by rw [b2 (a1.keep e), b1 e]⟩
theorem state_full (st : StD) : (stateN st).2.full = if st.rows.length = 4096 then true else st.full := by unfold stateN; split <;> rfl
theorem made_state {st : StD} (h : StOk st) : Made 1 0 st (stateN st) := by
  have hl := state_len st
  have hf := state_full st
  refine ⟨h.state, state_lt h, state_grow st, fun e => by rw [hf, e]; split <;> rfl, fun _ => by rw [edges_state]; omega, by rw [edges_state]; omega, fun e => ?_, fun e hr => ?_⟩
  · rw [hf] at e; split at e
    · cases e
    · rename_i h1; rw [hl, if_neg h1]
  · rw [hf, if_neg (by omega)]; exact e
/-- Where there was no room for a state, nothing comes any more. -/
theorem state_none {st : StD} (h : (stateN st).2.full = true) (ho : StOk st) : st.rows.length = 4096 := by
  rw [state_full] at h
  split at h
  · assumption
  · exact ho.full h
/-- Up to k edges more, behind a state that came or for which there was no room. -/
theorem Made.more {c s : Nat} {st : StD} {p : Nat × StD} {q : Nat × StD} {k : Nat} (h : Made c s st p) (hl : q.2.rows.length = p.2.rows.length) (hf : q.2.full = p.2.full) (ho : StOk q.2) (hq : q.1 < p.2.rows.length)
    (he : edgesN q.2 ≤ edgesN p.2 + k) (h0 : p.2.full = false → edgesN p.2 + k ≤ edgesN st + 4 * (p.2.rows.length - st.rows.length)) (h1 : edgesN p.2 + k ≤ edgesN st + 4 * (p.2.rows.length - st.rows.length) + 4 * (s + 1)) : Made c (s + 1) st q :=
  ⟨ho, by rw [hl]; exact hq, by rw [hl]; exact h.grow, fun e => by rw [hf]; exact h.keep e, fun e => by rw [hl]; have := h0 (by rw [← hf]; exact e); omega, by rw [hl]; omega, fun e => by rw [hl]; exact h.len (by rw [← hf]; exact e), fun e hr => by rw [hf]; exact h.room e hr⟩
theorem MadeF.min {c s : Nat} {f : NodeF} (h : MadeF c s f) : ∀ (k : Nat) (f0 : Nat) (st : StD), StOk st → f0 < st.rows.length → Made (k * c) s st (minN f k f0 st).2 ∧ ((minN f k f0 st).1 = true → (minN f k f0 st).2.2.full = true) ∧ (st.full = true → edgesN (minN f k f0 st).2.2 = edgesN st)
  | 0, f0, st, ho, hf => ⟨by rw [minN, Nat.zero_mul]; exact (Made.refl ho hf).le (Nat.zero_le _), (fun e => by cases e), fun _ => rfl⟩
  | k + 1, f0, st, ho, hf => by
    rw [minN]
    cases hfull : st.full with
    | true =>
      rw [if_pos rfl]
      have hp := ho.pos
      exact ⟨Made.stay ho (by omega) hfull, fun _ => hfull, fun _ => rfl⟩
    | false =>
      rw [if_neg (by decide)]
      obtain ⟨a1, b1⟩ := h f0 st ho hf
      obtain ⟨a2, b2, b3⟩ := MadeF.min h k (f f0 st).1 (f f0 st).2 a1.ok a1.lt
      have g1 := a1.grow
      have g2 := a2.grow
      refine ⟨⟨a2.ok, a2.lt, by omega, fun e => a2.keep (a1.keep e), fun e => ?_, ?_, fun e => ?_, fun e hr => ?_⟩, b2, (fun e => by cases e)⟩
      · have e1 : (f f0 st).2.full = false := by cases h : (f f0 st).2.full with
          | false => rfl
          | true => rw [a2.keep h] at e; cases e
        have := a1.edges0 e1; have := a2.edges0 e; omega
      · cases h : (f f0 st).2.full with
        | false => have := a1.edges0 h; have := a2.edges1; omega
        | true => have := a1.edges1; have := b3 h; have := full_len a1.ok a2.ok g2 h; omega
      · have e1 : (f f0 st).2.full = false := by cases h : (f f0 st).2.full with
          | false => rfl
          | true => rw [a2.keep h] at e; cases e
        have := a1.len e1; have := a2.len e
        rw [Nat.succ_mul]; omega
      · rw [Nat.succ_mul] at hr
        have e1 := a1.room e (by omega)
        have := a1.len e1
        exact a2.room e1 (by omega)
/-- A state, and one piece from it on, with edges to and from it. -/
theorem MadeF.one {c s : Nat} {f : NodeF} (h : MadeF c s f) {to f0 : Nat} {st : StD} (ho : StOk st) (hf : f0 < st.rows.length) (ht : to < st.rows.length) : Made (1 + c) (s + 1) st (oneN f to f0 st) := by
  have o1 : StOk (edgeN f0 (freeE to) st) := ho.edge ht
  have m1 := made_state o1
  have hsl := state_lt o1
  have hE1 := edges_edge f0 (freeE to) st
  have hL1 := edge_len f0 (freeE to) st
  have hF1 := edge_full f0 (freeE to) st
  unfold oneN
  generalize edgeN f0 (freeE to) st = st1 at *
  have hE2 := edges_state st1
  have hsn := state_none (st := st1)
  have hL2 := state_len st1
  have hF2 := state_full st1
  generalize stateN st1 = r at *
  have hE3 := edges_edge f0 (freeE r.1) r.2
  have hL3 := edge_len f0 (freeE r.1) r.2
  have hF3 := edge_full f0 (freeE r.1) r.2
  have o3 : StOk (edgeN f0 (freeE r.1) r.2) := m1.ok.edge hsl
  generalize edgeN f0 (freeE r.1) r.2 = st3 at *
  obtain ⟨a, b⟩ := h r.1 st3 o3 (by rw [hL3]; exact hsl)
  have hlen1 := m1.len
  have hg1 := m1.grow
  have hg := a.grow
  have hkeep : st.full = true → st3.full = true := fun e => by rw [hF3]; exact m1.keep (by rw [hF1]; exact e)
  have hnf : (f r.1 st3).2.full = false → st3.full = false := fun e => by cases hh : st3.full with
    | false => rfl
    | true => rw [a.keep hh] at e; cases e
  refine ⟨a.ok, a.lt, by omega, fun e => a.keep (hkeep e), fun e => ?_, ?_, fun e => ?_, fun e hr => ?_⟩
  · have e1 := hnf e
    have := a.edges0 e
    have := hlen1 (by rw [← hF3]; exact e1)
    omega
  · cases h3 : st3.full with
    | true => have := b h3; have := full_len o3 a.ok hg h3; omega
    | false =>
      have := a.edges1
      have := hlen1 (by rw [← hF3]; exact h3)
      omega
  · have e1 := hnf e
    have := a.len e
    have := hlen1 (by rw [← hF3]; exact e1)
    omega
  · have e2 := m1.room (by rw [hF1]; exact e) (by omega)
    have := hlen1 e2
    exact a.room (by rw [hF3]; exact e2) (by omega)
theorem MadeF.max {c s : Nat} {f : NodeF} (h : MadeF c s f) (to : Nat) : ∀ (k : Nat) (f0 : Nat) (st : StD), StOk st → f0 < st.rows.length → to < st.rows.length → Made (k * (1 + c)) (s + 1) st (maxN f to k f0 st).2 ∧ ((maxN f to k f0 st).1 = true → (maxN f to k f0 st).2.2.full = true) ∧ (st.full = true → edgesN (maxN f to k f0 st).2.2 = edgesN st)
  | 0, f0, st, ho, hf, ht => ⟨by rw [maxN, Nat.zero_mul]; exact (Made.refl ho hf).le (Nat.zero_le _), (fun e => by cases e), fun _ => rfl⟩
  | k + 1, f0, st, ho, hf, ht => by
    rw [maxN]
    cases hfull : st.full with
    | true =>
      rw [if_pos rfl]
      have hp := ho.pos
      exact ⟨Made.stay ho (by omega) hfull, fun _ => hfull, fun _ => rfl⟩
    | false =>
      rw [if_neg (by decide)]
      have a1 := h.one ho hf ht
      generalize oneN f to f0 st = p at *
      have g1 := a1.grow
      obtain ⟨a2, b2, b3⟩ := MadeF.max h to k p.1 p.2 a1.ok a1.lt (by omega)
      have g2 := a2.grow
      refine ⟨⟨a2.ok, a2.lt, by omega, fun e => a2.keep (a1.keep e), fun e => ?_, ?_, fun e => ?_, fun e hr => ?_⟩, b2, (fun e => by cases e)⟩
      · have e1 : p.2.full = false := by cases h : p.2.full with
          | false => rfl
          | true => rw [a2.keep h] at e; cases e
        have := a1.edges0 e1; have := a2.edges0 e; omega
      · cases h : p.2.full with
        | false => have := a1.edges0 h; have := a2.edges1; omega
        | true => have := a1.edges1; have := b3 h; have := full_len a1.ok a2.ok g2 h; omega
      · have e1 : p.2.full = false := by cases h : p.2.full with
          | false => rfl
          | true => rw [a2.keep h] at e; cases e
        have := a1.len e1; have := a2.len e
        rw [Nat.succ_mul]; omega
      · rw [Nat.succ_mul] at hr
        have e1 := a1.room e (by omega)
        have := a1.len e1
        exact a2.room e1 (by omega)
theorem Made.full {c c2 s f f1 : Nat} {st s1 : StD} (h : Made c s st (f1, s1)) (hu : s1.full = true) (hf : f < s1.rows.length) (hc : c ≤ c2) : Made c2 s st (f, s1) :=
  ⟨h.ok, hf, h.grow, h.keep, h.edges0, h.edges1, (fun e => absurd (hu.symm.trans e) (by decide)), fun e hr => h.room e (by omega)⟩
theorem made_loop {c s : Nat} {f : NodeF} (h : MadeF c s f) {to f0 : Nat} {st : StD} (ho : StOk st) (hf : f0 < st.rows.length) (ht : to < st.rows.length) :
    StOk (loopN f to f0 st) ∧ st.rows.length ≤ (loopN f to f0 st).rows.length ∧ (st.full = true → (loopN f to f0 st).full = true ∧ edgesN (loopN f to f0 st) ≤ edgesN st + 3) ∧
    ((loopN f to f0 st).full = false → edgesN (loopN f to f0 st) + 1 ≤ edgesN st + 4 * ((loopN f to f0 st).rows.length - st.rows.length) ∧ (loopN f to f0 st).rows.length = st.rows.length + (1 + c)) ∧
    edgesN (loopN f to f0 st) ≤ edgesN st + 4 * ((loopN f to f0 st).rows.length - st.rows.length) + 4 * s + 3 ∧ (st.full = false → st.rows.length + (1 + c) ≤ 4096 → (loopN f to f0 st).full = false) := by
  have m1 := made_state ho
  have hsl := state_lt ho
  have hE2 := edges_state st
  have hsn := state_none (st := st)
  unfold loopN
  dsimp only
  generalize stateN st = r at *
  have g1 := m1.grow
  have hE3 := edges_edge f0 (freeE r.1) r.2
  have hL3 := edge_len f0 (freeE r.1) r.2
  have hF3 := edge_full f0 (freeE r.1) r.2
  have o3 : StOk (edgeN f0 (freeE r.1) r.2) := m1.ok.edge hsl
  generalize edgeN f0 (freeE r.1) r.2 = s3 at *
  have hE4 := edges_edge r.1 (freeE to) s3
  have hL4 := edge_len r.1 (freeE to) s3
  have hF4 := edge_full r.1 (freeE to) s3
  have o4 : StOk (edgeN r.1 (freeE to) s3) := o3.edge (show to < s3.rows.length by omega)
  generalize edgeN r.1 (freeE to) s3 = s4 at *
  obtain ⟨a, b⟩ := h r.1 s4 o4 (by omega)
  have g2 := a.grow
  generalize f r.1 s4 = p at *
  have hE5 := edges_edge p.1 (freeE r.1) p.2
  have hL5 := edge_len p.1 (freeE r.1) p.2
  have hF5 := edge_full p.1 (freeE r.1) p.2
  have o5 : StOk (edgeN p.1 (freeE r.1) p.2) := a.ok.edge (show r.1 < p.2.rows.length by omega)
  generalize edgeN p.1 (freeE r.1) p.2 = s5 at *
  have hnf : p.2.full = false → s4.full = false := fun e => by cases hh : s4.full with
    | false => rfl
    | true => rw [a.keep hh] at e; cases e
  refine ⟨o5, by omega, fun e => ?_, fun e => ?_, ?_, fun e hr => ?_⟩
  · have e4 : s4.full = true := by rw [hF4, hF3]; exact m1.keep e
    refine ⟨by rw [hF5]; exact a.keep e4, ?_⟩
    have := b e4; omega
  · have e5 : p.2.full = false := by rw [← hF5]; exact e
    have e4 := hnf e5
    have := a.edges0 e5
    have := a.len e5
    have := m1.len (by rw [← hF3, ← hF4]; exact e4)
    omega
  · cases e4 : s4.full with
    | true => have := b e4; have := full_len o4 a.ok g2 e4; omega
    | false =>
      have := a.edges1
      have := m1.len (by rw [← hF3, ← hF4]; exact e4)
      omega
  · have e2 := m1.room e (by omega)
    have := m1.len e2
    rw [hF5]
    exact a.room (by rw [hF4, hF3]; exact e2) (by omega)
theorem made_repeat {c s : Nat} {f : NodeF} (h : MadeF c s f) (a b : Int) {f0 : Nat} {st : StD} (ho : StOk st) (hf : f0 < st.rows.length) : Made (a.toNat * c + 1 + (if b < 0 then 1 + c else (b - a).toNat * (1 + c))) (s + 1) st (repeatN f a b f0 st) := by
  unfold repeatN
  obtain ⟨m1, m2, m3⟩ := h.min a.toNat f0 st ho hf
  generalize minN f a.toNat f0 st = M at *
  obtain ⟨stop, f1, s1⟩ := M
  dsimp only at m1 m2 m3
  have hp1 := m1.ok.pos
  have g1 := m1.grow
  cases stop with
  | true => exact (m1.full (m2 rfl) (show 0 < s1.rows.length from hp1) (by omega)).le (by omega)
  | false =>
    have t1 := made_state m1.ok
    have hE1 := edges_state s1
    dsimp only at t1 ⊢
    have o1 := m1.ok
    have hlt1 := m1.lt
    dsimp only at o1 hlt1 g1 hp1
    have t1 : Made 1 0 s1 (stateN s1) := made_state o1
    have hsn := state_none (st := s1)
    generalize stateN s1 = t at *
    have g2 := t1.grow
    have hlt2 := t1.lt
    have hkm : st.full = true → s1.full = true := m1.keep
    by_cases hb : b < 0
    · rw [if_pos hb, if_pos hb]
      obtain ⟨l1, l2, l3, l4, l5, l6⟩ := made_loop h t1.ok (f0 := f1) (to := t.1) (by omega) hlt2
      generalize loopN f t.1 f1 t.2 = s2 at *
      have hk2 : s2.full = false → t.2.full = false := fun e => by cases hh : t.2.full with
        | false => rfl
        | true => rw [(l3 hh).1] at e; cases e
      have hk1 : t.2.full = false → s1.full = false := fun e => by cases hh : s1.full with
        | false => rfl
        | true => rw [t1.keep hh] at e; cases e
      refine ⟨l1, by show t.1 < s2.rows.length; omega, by show st.rows.length ≤ s2.rows.length; omega, fun e => (l3 (t1.keep (hkm e))).1, fun e => ?_, ?_, fun e => ?_, fun e hr => ?_⟩
      · have := l4 e; have := m1.edges0 (hk1 (hk2 e)); have := t1.len (hk2 e)
        dsimp only at *; omega
      · cases e1 : s1.full with
        | true =>
          have := (l3 (t1.keep e1)).2; have := m1.edges1; have := full_len o1 t1.ok g2 e1; have := full_len t1.ok l1 l2 (t1.keep e1)
          dsimp only at *; omega
        | false =>
          have := m1.edges0 e1
          cases e2 : t.2.full with
          | true => have := (l3 e2).2; dsimp only at *; omega
          | false => have := t1.len e2; dsimp only at *; omega
      · have := l4 e; have := m1.len (hk1 (hk2 e)); have := t1.len (hk2 e)
        dsimp only at *; omega
      · have e1 := m1.room e (by omega)
        have := m1.len e1
        dsimp only at *
        have e2 := t1.room e1 (by omega)
        have := t1.len e2
        exact l6 e2 (by omega)
    · rw [if_neg hb, if_neg hb]
      obtain ⟨x1, x2, x3⟩ := h.max t.1 (b - a).toNat f1 t.2 t1.ok (by omega) hlt2
      generalize maxN f t.1 (b - a).toNat f1 t.2 = M2 at *
      obtain ⟨stop, f2, s2⟩ := M2
      dsimp only at x1 x2 x3
      have o2 : StOk s2 := x1.ok
      have g3 : t.2.rows.length ≤ s2.rows.length := x1.grow
      have hlt3 : f2 < s2.rows.length := x1.lt
      have hk1 : t.2.full = false → s1.full = false := fun e => by cases hh : s1.full with
        | false => rfl
        | true => rw [t1.keep hh] at e; cases e
      have hk2 : s2.full = false → t.2.full = false := fun e => by cases hh : t.2.full with
        | false => rfl
        | true => have h2 : s2.full = true := x1.keep hh; rw [h2] at e; cases e
      -- what holds of s2, one edge more or none
      have key : ∀ (v : Nat) (s3 : StD), StOk s3 → v < s3.rows.length → s3.rows.length = s2.rows.length → s3.full = s2.full → edgesN s3 ≤ edgesN s2 + 1 → Made (a.toNat * c + 1 + (b - a).toNat * (1 + c)) (s + 1) st (v, s3) := by
        intro v s3 o3 hv hl3 hf3 he3
        refine ⟨o3, hv, by show st.rows.length ≤ s3.rows.length; omega, fun e => by show s3.full = true; rw [hf3]; exact x1.keep (t1.keep (hkm e)), fun e => ?_, ?_, fun e => ?_, fun e hr => ?_⟩
        · have e2 : s2.full = false := hf3.symm.trans e
          have := x1.edges0 e2; have := t1.len (hk2 e2); have := m1.edges0 (hk1 (hk2 e2))
          dsimp only at *; omega
        · cases e1 : s1.full with
          | true =>
            have := x3 (t1.keep e1); have := m1.edges1; have := full_len o1 t1.ok g2 e1; have := full_len t1.ok o2 g3 (t1.keep e1)
            dsimp only at *; omega
          | false =>
            have := m1.edges0 e1
            cases e2 : t.2.full with
            | true => have := x3 e2; dsimp only at *; omega
            | false => have := t1.len e2; have := x1.edges1; dsimp only at *; omega
        · have e2 : s2.full = false := hf3.symm.trans e
          have := x1.len e2; have := t1.len (hk2 e2); have := m1.len (hk1 (hk2 e2))
          dsimp only at *; omega
        · have e1 := m1.room e (by omega)
          have := m1.len e1
          dsimp only at *
          have e2 := t1.room e1 (by omega)
          have := t1.len e2
          rw [hf3]
          exact x1.room e2 (by omega)
      cases stop with
      | true => exact key 0 s2 o2 (by omega) rfl rfl (by omega)
      | false => exact key t.1 (edgeN f2 (freeE t.1) s2) (o2.edge (show t.1 < s2.rows.length by omega)) (by rw [edge_len]; omega) (edge_len _ _ _) rfl (edges_edge _ _ _)
theorem made_alt : ∀ (l : List RgD), (∀ x ∈ l, MadeF (cntN x) (sizeD x) (nodeN x)) → ∀ (f0 to : Nat) (st : StD), StOk st → f0 < st.rows.length → to < st.rows.length → Made (altsN l) (sizeK l) st (to, altN l f0 to st)
  | [], _, f0, to, st, ho, hf, ht => by rw [altsN, sizeK, altN]; exact Made.refl ho ht
  | x :: l, h, f0, to, st, ho, hf, ht => by
    rw [altsN, sizeK, altN]
    dsimp only
    have hx := h x (by simp)
    have hsz := sizeD_pos x
    have m1 := made_state ho
    have hsl := state_lt ho
    have hE2 := edges_state st
    generalize stateN st = r at *
    have g1 := m1.grow
    have hE3 := edges_edge f0 (freeE r.1) r.2
    have hL3 := edge_len f0 (freeE r.1) r.2
    have hF3 := edge_full f0 (freeE r.1) r.2
    have o3 : StOk (edgeN f0 (freeE r.1) r.2) := m1.ok.edge hsl
    generalize edgeN f0 (freeE r.1) r.2 = s3 at *
    obtain ⟨a, b⟩ := hx r.1 s3 o3 (by omega)
    have g2 := a.grow
    generalize nodeN x r.1 s3 = p at *
    have hE5 := edges_edge p.1 (freeE to) p.2
    have hL5 := edge_len p.1 (freeE to) p.2
    have hF5 := edge_full p.1 (freeE to) p.2
    have o5 : StOk (edgeN p.1 (freeE to) p.2) := a.ok.edge (show to < p.2.rows.length by omega)
    generalize edgeN p.1 (freeE to) p.2 = s5 at *
    have hnf : p.2.full = false → s3.full = false := fun e => by cases hh : s3.full with
      | false => rfl
      | true => rw [a.keep hh] at e; cases e
    have k1 : Made (1 + cntN x) (sizeD x) st (to, s5) := by
      refine ⟨o5, by show to < s5.rows.length; omega, by show st.rows.length ≤ s5.rows.length; omega, fun e => by show s5.full = true; rw [hF5]; exact a.keep (by rw [hF3]; exact m1.keep e), fun e => ?_, ?_, fun e => ?_, fun e hr => ?_⟩
      · have e5 : p.2.full = false := hF5.symm.trans e
        have := a.edges0 e5; have := m1.len (by rw [← hF3]; exact hnf e5)
        dsimp only at *; omega
      · cases e3 : s3.full with
        | true => have := b e3; have := full_len o3 a.ok g2 e3; dsimp only at *; omega
        | false => have := a.edges1; have := m1.len (by rw [← hF3]; exact e3); dsimp only at *; omega
      · have e5 : p.2.full = false := hF5.symm.trans e
        have := a.len e5; have := m1.len (by rw [← hF3]; exact hnf e5)
        dsimp only at *; omega
      · have e2 := m1.room e (by omega)
        have := m1.len e2
        show s5.full = false
        rw [hF5]
        exact a.room (by rw [hF3]; exact e2) (by omega)
    have k2 := made_alt l (fun y hy => h y (by simp [hy])) f0 to s5 o5 (by omega) (by omega)
    have g5 := k1.grow
    have g6 := k2.grow
    refine ⟨k2.ok, k2.lt, Nat.le_trans g5 g6, fun e => k2.keep (k1.keep e), fun e => ?_, ?_, fun e => ?_, fun e hr => ?_⟩
    · have e1 : s5.full = false := by cases hh : s5.full with
        | false => rfl
        | true => have h2 := k2.keep hh; rw [h2] at e; cases e
      have := k1.edges0 e1; have := k2.edges0 e; dsimp only at *; omega
    · have := k1.edges1; have := k2.edges1; dsimp only at *; omega
    · have e1 : s5.full = false := by cases hh : s5.full with
        | false => rfl
        | true => have h2 := k2.keep hh; rw [h2] at e; cases e
      have := k1.len e1; have := k2.len e; dsimp only at *; omega
    · have e1 := k1.room e (by omega)
      have := k1.len e1
      exact k2.room e1 (by dsimp only at *; omega)
theorem made_cat : ∀ (l : List RgD), (∀ x ∈ l, MadeF (cntN x) (sizeD x) (nodeN x)) → MadeF (sumN l) (sizeK l) (catN l)
  | [], _ => fun f0 st ho hf => by rw [sumN, sizeK, catN]; exact ⟨Made.refl ho hf, fun _ => rfl⟩
  | x :: l, h => fun f0 st ho hf => by
    rw [sumN, sizeK, catN]
    exact (MadeF.then (h x (by simp)) (made_cat l (fun y hy => h y (by simp [hy])))) f0 st ho hf
theorem wrongK_all : ∀ {l : List RgD}, wrongK l = 0 → ∀ x ∈ l, wrongD x = 0
  | [], _, x, hx => by cases hx
  | y :: l, h, x, hx => by
    obtain ⟨h1, h2⟩ := wrongK_cons h
    rcases List.mem_cons.1 hx with rfl | hx
    · exact h1
    · exact wrongK_all h2 x hx
theorem made_node : ∀ n : RgD, wrongD n = 0 → MadeF (cntN n) (sizeD n) (nodeN n) := RgD.ind fun k s l a b ih hw f0 st ho hf => by
  obtain ⟨hform, hk⟩ := wrongD_parts hw
  have hk : wrongK l = 0 := hk
  have hall : ∀ x ∈ l, MadeF (cntN x) (sizeD x) (nodeN x) := fun x hx => ih x hx (wrongK_all hk x hx)
  rw [cntN, sizeD, nodeN]
  dsimp only
  cases hfull : st.full with
  | true =>
    rw [if_pos rfl]
    have := ho.pos
    exact ⟨Made.stay ho (by omega) hfull, fun _ => rfl⟩
  | false =>
    rw [if_neg (show ¬ (false = true) by decide)]
    refine ⟨?_, fun e => by cases e⟩
    have hF := form_cases hform
    by_cases h2 : k = 2
    · rw [if_pos h2, if_pos h2]
      have m1 := made_state ho
      have hsl := state_lt ho
      have hE2 := edges_state st
      generalize stateN st = r at *
      have g1 := m1.grow
      have hE3 := edges_edge f0 (setE r.1 s) r.2
      have hL3 := edge_len f0 (setE r.1 s) r.2
      have hF3 := edge_full f0 (setE r.1 s) r.2
      have o3 : StOk (edgeN f0 (setE r.1 s) r.2) := m1.ok.edge hsl
      generalize edgeN f0 (setE r.1 s) r.2 = s3 at *
      refine ⟨o3, by show r.1 < s3.rows.length; omega, by show st.rows.length ≤ s3.rows.length; omega, fun e => by show s3.full = true; rw [hF3]; exact m1.keep e, fun e => ?_, ?_, fun e => ?_, fun e hr => ?_⟩
      · have := m1.len (hF3.symm.trans e); dsimp only at *; omega
      · dsimp only at *; omega
      · have := m1.len (hF3.symm.trans e); dsimp only at *; omega
      · show s3.full = false
        rw [hF3]; exact m1.room e hr
    rw [if_neg h2, if_neg h2]
    by_cases h3 : k = 3
    · rw [if_pos h3, if_pos h3]
      exact ((made_cat l hall) f0 st ho hf).1.le (by omega)
    rw [if_neg h3, if_neg h3]
    by_cases h4 : k = 4
    · rw [if_pos h4, if_pos h4]
      have m1 := made_state ho
      have hsl := state_lt ho
      generalize stateN st = r at *
      have g1 := m1.grow
      have m2 := made_alt l hall f0 r.1 r.2 m1.ok (by omega) hsl
      have g2 := m2.grow
      have := Made.then (s1 := 0) (p := r) m1 m2
      refine ⟨m2.ok, m2.lt, Nat.le_trans g1 g2, fun e => m2.keep (m1.keep e), fun e => ?_, ?_, fun e => ?_, fun e hr => ?_⟩
      · have e1 : r.2.full = false := by cases hh : r.2.full with
          | false => rfl
          | true => have h2 := m2.keep hh; rw [h2] at e; cases e
        have := m1.edges0 e1; have := m2.edges0 e; dsimp only at *; omega
      · have := m1.edges1; have := m2.edges1; dsimp only at *; omega
      · have e1 : r.2.full = false := by cases hh : r.2.full with
          | false => rfl
          | true => have h2 := m2.keep hh; rw [h2] at e; cases e
        have := m1.len e1; have := m2.len e; dsimp only at *; omega
      · have e1 := m1.room e (by omega)
        have := m1.len e1
        exact m2.room e1 (by omega)
    rw [if_neg h4, if_neg h4]
    by_cases h5 : k = 5
    · rw [if_pos h5, if_pos h5]
      cases hF with
      | none => omega
      | one => omega
      | cat => omega
      | alt => omega
      | rep s x a b h =>
        rw [sizeK, sizeK, kidC]
        have hk : kidN [x] = nodeN x := by rw [kidN]
        rw [hk]
        exact made_repeat (hall x (by simp)) a b ho hf
    · rw [if_neg h5, if_neg h5]
      exact (Made.refl ho hf).le (Nat.zero_le _)
end Go.Proofs.Ytkpdnpcmeadggaa
