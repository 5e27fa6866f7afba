/- Texts of a walk, one behind the other. -/
import Derived.Test.YtinbmhbfcoiefaaGreatDoorMg3
import Derived.Test.YtinbmhbfcoiefaaGreatDoorMg4
section
/- Automata of expressions as data: how one is made, how many states it has. No program in sight. -/
namespace Go.Proofs.YtinbmhbfcoiefaaGreatDoor
open Go Go.E
set_option linter.unusedVariables false
set_option maxRecDepth 10000
structure EdgeD where
  to : Nat
  set : SetD
  free : Bool
deriving DecidableEq
/-- What is made: of each state its edges; whether there was no room. -/
structure StD where
  rows : List (List EdgeD)
  full : Bool
deriving DecidableEq
def freeE (to : Nat) : EdgeD := ⟨to, zeroS, true⟩
def setE (to : Nat) (s : SetD) : EdgeD := ⟨to, s, false⟩
def stateN (st : StD) : Nat × StD := if st.rows.length = 4096 then (0, { st with full := true }) else (st.rows.length, { st with rows := st.rows ++ [[]] })
def edgeN (from' : Nat) (x : EdgeD) (st : StD) : StD := { st with rows := st.rows.set from' ((st.rows[from']?.getD []) ++ [x]) }
abbrev NodeF := Nat → StD → Nat × StD
/-- So many times at least: whether there was no room ahead of one. -/
def minN (f : NodeF) : Nat → Nat → StD → Bool × Nat × StD
  | 0, from', st => (false, from', st)
  | k + 1, from', st => if st.full then (true, 0, st) else minN f k (f from' st).1 (f from' st).2
def oneN (f : NodeF) (to : Nat) (from' : Nat) (st : StD) : Nat × StD :=
  f (stateN (edgeN from' (freeE to) st)).1 (edgeN from' (freeE (stateN (edgeN from' (freeE to) st)).1) (stateN (edgeN from' (freeE to) st)).2)
def maxN (f : NodeF) (to : Nat) : Nat → Nat → StD → Bool × Nat × StD
  | 0, from', st => (false, from', st)
  | k + 1, from', st => if st.full then (true, 0, st) else maxN f to k (oneN f to from' st).1 (oneN f to from' st).2
def loopN (f : NodeF) (to from' : Nat) (st : StD) : StD :=
  let r := stateN st
  let p := f r.1 (edgeN r.1 (freeE to) (edgeN from' (freeE r.1) r.2))
  edgeN p.1 (freeE r.1) p.2
def repeatN (f : NodeF) (a b : Int) (from' : Nat) (st : StD) : Nat × StD :=
  match minN f a.toNat from' st with
  | (true, _, s1) => (0, s1)
  | (false, f1, s1) =>
    if b < 0 then ((stateN s1).1, loopN f (stateN s1).1 f1 (stateN s1).2)
    else match maxN f (stateN s1).1 (b - a).toNat f1 (stateN s1).2 with
      | (true, _, s2) => (0, s2)
      | (false, f2, s2) => ((stateN s1).1, edgeN f2 (freeE (stateN s1).1) s2)
mutual
def nodeN : RgD → Nat → StD → Nat × StD
  | .mk k s l a b => fun from' st => if st.full then (0, st)
    else if k = 2 then ((stateN st).1, edgeN from' (setE (stateN st).1 s) (stateN st).2)
    else if k = 3 then catN l from' st
    else if k = 4 then ((stateN st).1, altN l from' (stateN st).1 (stateN st).2)
    else if k = 5 then repeatN (kidN l) a b from' st
    else (from', st)
def catN : List RgD → Nat → StD → Nat × StD
  | [] => fun from' st => (from', st)
  | x :: r => fun from' st => catN r (nodeN x from' st).1 (nodeN x from' st).2
def altN : List RgD → Nat → Nat → StD → StD
  | [] => fun _ _ st => st
  | x :: r => fun from' to st =>
    let p := nodeN x (stateN st).1 (edgeN from' (freeE (stateN st).1) (stateN st).2)
    altN r from' to (edgeN p.1 (freeE to) p.2)
def kidN : List RgD → Nat → StD → Nat × StD
  | [] => fun from' st => (from', st)
  | x :: _ => fun from' st => nodeN x from' st
end

mutual
def cntN : RgD → Nat
  | .mk k _ l a b => if k = 2 then 1 else if k = 3 then sumN l else if k = 4 then 1 + altsN l
    else if k = 5 then a.toNat * kidC l + 1 + (if b < 0 then 1 + kidC l else (b - a).toNat * (1 + kidC l)) else 0
def sumN : List RgD → Nat
  | [] => 0
  | x :: r => cntN x + sumN r
def altsN : List RgD → Nat
  | [] => 0
  | x :: r => (1 + cntN x) + altsN r
def kidC : List RgD → Nat
  | [] => 0
  | x :: _ => cntN x
end
/-! How states and edges come. -/
def edgesN (st : StD) : Nat := (st.rows.map List.length).sum
/-- What holds of all that is made. -/
structure StOk (st : StD) : Prop where
  pos : 1 ≤ st.rows.length
  le : st.rows.length ≤ 4096
  to : ∀ row ∈ st.rows, ∀ x ∈ row, x.to < st.rows.length
  full : st.full = true → st.rows.length = 4096
theorem state_len (st : StD) : (stateN st).2.rows.length = if st.rows.length = 4096 then 4096 else st.rows.length + 1 := by
  unfold stateN; split
  · rename_i h; exact h
  · simp
theorem state_lt {st : StD} (h : StOk st) : (stateN st).1 < (stateN st).2.rows.length := by
  have := h.pos
  unfold stateN; split
  · show 0 < _; exact this
  · simp
theorem state_grow (st : StD) : st.rows.length ≤ (stateN st).2.rows.length := by rw [state_len]; split <;> omega
theorem StOk.state {st : StD} (h : StOk st) : StOk (stateN st).2 := by
  have hl := state_len st
  have hp := h.pos
  have hle := h.le
  refine ⟨by rw [hl]; split <;> omega, by rw [hl]; split <;> omega, ?_, ?_⟩
  · intro row hr x hx
    rw [hl]
    unfold stateN at hr
    split at hr
    · rename_i e; rw [if_pos e]; have := h.to row hr x hx; omega
    · rename_i e; rw [if_neg e]
      rcases List.mem_append.1 hr with hr | hr
      · have := h.to row hr x hx; omega
      · rw [List.mem_singleton] at hr; subst hr; cases hx
  · intro hf
    rw [hl]
    unfold stateN at hf
    split at hf
    · rename_i e; rw [if_pos e]
    · rename_i e; exact absurd (h.full hf) e
theorem edge_len (f : Nat) (x : EdgeD) (st : StD) : (edgeN f x st).rows.length = st.rows.length := by unfold edgeN; simp
theorem edge_full (f : Nat) (x : EdgeD) (st : StD) : (edgeN f x st).full = st.full := rfl
theorem StOk.edge {st : StD} (h : StOk st) {f : Nat} {x : EdgeD} (hx : x.to < st.rows.length) : StOk (edgeN f x st) := by
  refine ⟨by rw [edge_len]; exact h.pos, by rw [edge_len]; exact h.le, ?_, by rw [edge_len]; exact h.full⟩
  intro row hr y hy
  rw [edge_len]
  unfold edgeN at hr
  rcases List.mem_or_eq_of_mem_set hr with hr | rfl
  · exact h.to row hr y hy
  · rcases List.mem_append.1 hy with hy | hy
    · cases hg : st.rows[f]? with
      | none => rw [hg] at hy; cases hy
      | some r0 => rw [hg] at hy; exact h.to r0 (List.mem_of_getElem? hg) y hy
    · rw [List.mem_singleton] at hy; subst hy; exact hx
theorem sum_set : ∀ (l : List Nat) (i : Nat) (v : Nat), (l.set i v).sum + (l[i]?.getD 0) ≤ l.sum + v
  | [], i, v => by simp
  | x :: l, 0, v => by simp; omega
  | x :: l, i + 1, v => by
    have := sum_set l i v
    rw [List.set_cons_succ, List.sum_cons, List.sum_cons, List.getElem?_cons_succ]; omega
theorem edges_edge (f : Nat) (x : EdgeD) (st : StD) : edgesN (edgeN f x st) ≤ edgesN st + 1 := by
  unfold edgesN edgeN
  rw [List.map_set, List.length_append, List.length_singleton]
  have h := sum_set (st.rows.map List.length) f ((st.rows[f]?.getD []).length + 1)
  rw [List.getElem?_map] at h
  cases hg : st.rows[f]? with
  | none =>
    rw [hg] at h
    have hl : st.rows.length ≤ f := List.getElem?_eq_none_iff.1 hg
    rw [List.set_eq_of_length_le (by simpa using hl)]; omega
  | some r => rw [hg] at h; simp only [Option.getD_some, Option.map_some] at h ⊢; omega
theorem edges_state (st : StD) : edgesN (stateN st).2 = edgesN st := by
  unfold stateN edgesN; split
  · rfl
  · simp
theorem row_edges {st : StD} {f : Nat} {r : List EdgeD} (h : st.rows[f]? = some r) : r.length ≤ edgesN st := by
  unfold edgesN
  have hm : r.length ∈ st.rows.map List.length := List.mem_map_of_mem (List.mem_of_getElem? h)
  generalize st.rows.map List.length = l at hm
  induction l with
  | nil => cases hm
  | cons x l ih =>
    rw [List.sum_cons]
    rcases List.mem_cons.1 hm with rfl | hm
    · omega
    · have := ih hm; omega
/-- What a piece of making does: states come, each edge leads to one; its edges are told by the states that came, and by its size where there was no room; how many came, where there was. -/
structure Made (c s : Nat) (st : StD) (p : Nat × StD) : Prop where
  ok : StOk p.2
  lt : p.1 < p.2.rows.length
  grow : st.rows.length ≤ p.2.rows.length
  keep : st.full = true → p.2.full = true
  edges0 : p.2.full = false → edgesN p.2 ≤ edgesN st + 4 * (p.2.rows.length - st.rows.length)
  edges1 : edgesN p.2 ≤ edgesN st + 4 * (p.2.rows.length - st.rows.length) + 4 * s
  len : p.2.full = false → p.2.rows.length = st.rows.length + c
  room : st.full = false → st.rows.length + c ≤ 4096 → p.2.full = false
def MadeF (c s : Nat) (f : NodeF) : Prop := ∀ (from' : Nat) (st : StD), StOk st → from' < st.rows.length → Made c s st (f from' st) ∧ (st.full = true → edgesN (f from' st).2 = edgesN st)
theorem Made.le {c s s2 : Nat} {st : StD} {p : Nat × StD} (h : Made c s st p) (hs : s ≤ s2) : Made c s2 st p :=
  ⟨h.ok, h.lt, h.grow, h.keep, h.edges0, Nat.le_trans h.edges1 (by omega), h.len, h.room⟩
theorem Made.refl {st : StD} {f : Nat} (h : StOk st) (hf : f < st.rows.length) : Made 0 0 st (f, st) := ⟨h, hf, Nat.le_refl _, id, fun _ => Nat.le_add_right _ _, Nat.le_trans (Nat.le_add_right _ _) (Nat.le_add_right _ _), fun _ => rfl, fun h _ => h⟩
theorem Made.stay {c s f : Nat} {st : StD} (h : StOk st) (hf : f < st.rows.length) (hu : st.full = true) : Made c s st (f, st) :=
  ⟨h, hf, Nat.le_refl _, id, fun _ => Nat.le_add_right _ _, Nat.le_trans (Nat.le_add_right _ _) (Nat.le_add_right _ _), (fun e => absurd (hu.symm.trans e) (by decide)), (fun e => absurd (hu.symm.trans e) (by decide))⟩
theorem full_len {st st2 : StD} (h : StOk st) (h2 : StOk st2) (hg : st.rows.length ≤ st2.rows.length) (hf : st.full = true) : st2.rows.length = st.rows.length := by
  have := h.full hf; have := h2.le; omega
/-- One piece, and another one behind it, which does nothing where there is no room. -/
theorem Made.then {c1 s1 c2 s2 : Nat} {st : StD} {p q : Nat × StD} (h1 : Made c1 s1 st p) (h2 : Made c2 s2 p.2 q) (hq : p.2.full = true → edgesN q.2 = edgesN p.2) : Made (c1 + c2) (s1 + s2) st q := by
  have g1 := h1.grow
  have g2 := h2.grow
  refine ⟨h2.ok, h2.lt, by omega, fun e => h2.keep (h1.keep e), fun e => ?_, ?_, fun e => ?_, fun e hr => ?_⟩
  · have e1 : p.2.full = false := by cases h : p.2.full with
      | false => rfl
      | true => rw [h2.keep h] at e; cases e
    have := h1.edges0 e1; have := h2.edges0 e; omega
  · cases h : p.2.full with
    | false => have := h1.edges0 h; have := h2.edges1; omega
    | true => have := h1.edges1; have := hq h; have := full_len h1.ok h2.ok g2 h; omega
  · have e1 : p.2.full = false := by cases h : p.2.full with
      | false => rfl
      | true => rw [h2.keep h] at e; cases e
    have := h1.len e1; have := h2.len e; omega
  · have e1 := h1.room e (by omega)
    have := h1.len e1
    exact h2.room e1 (by omega)
theorem MadeF.then {c1 s1 c2 s2 : Nat} {f g : NodeF} (h1 : MadeF c1 s1 f) (h2 : MadeF c2 s2 g) : MadeF (c1 + c2) (s1 + s2) (fun f0 st => g (f f0 st).1 (f f0 st).2) := fun f0 st ho hf => by
  obtain ⟨a1, b1⟩ := h1 f0 st ho hf
  obtain ⟨a2, b2⟩ := h2 (f f0 st).1 (f f0 st).2 a1.ok a1.lt
  exact ⟨a1.then a2 b2, fun e => by rw [b2 (a1.keep e), b1 e]⟩
theorem state_full (st : StD) : (stateN st).2.full = if st.rows.length = 4096 then true else st.full := by unfold stateN; split <;> rfl
theorem made_state {st : StD} (h : StOk st) : Made 1 0 st (stateN st) := by
  have hl := state_len st
  have hf := state_full st
  refine ⟨h.state, state_lt h, state_grow st, fun e => by rw [hf, e]; split <;> rfl, fun _ => by rw [edges_state]; omega, by rw [edges_state]; omega, fun e => ?_, fun e hr => ?_⟩
  · rw [hf] at e; split at e
    · cases e
    · rename_i h1; rw [hl, if_neg h1]
  · rw [hf, if_neg (by omega)]; exact e
/-- Where there was no room for a state, nothing comes any more. -/
theorem state_none {st : StD} (h : (stateN st).2.full = true) (ho : StOk st) : st.rows.length = 4096 := by
  rw [state_full] at h
  split at h
  · assumption
  · exact ho.full h
theorem MadeF.min {c s : Nat} {f : NodeF} (h : MadeF c s f) : ∀ (k : Nat) (f0 : Nat) (st : StD), StOk st → f0 < st.rows.length → Made (k * c) s st (minN f k f0 st).2 ∧ ((minN f k f0 st).1 = true → (minN f k f0 st).2.2.full = true) ∧ (st.full = true → edgesN (minN f k f0 st).2.2 = edgesN st)
  | 0, f0, st, ho, hf => ⟨by rw [minN, Nat.zero_mul]; exact (Made.refl ho hf).le (Nat.zero_le _), (fun e => by cases e), fun _ => rfl⟩
  | k + 1, f0, st, ho, hf => by
    rw [minN]
    cases hfull : st.full with
    | true =>
      rw [if_pos rfl]
      have hp := ho.pos
      exact ⟨Made.stay ho (by omega) hfull, fun _ => hfull, fun _ => rfl⟩
    | false =>
      rw [if_neg (by decide)]
      obtain ⟨a1, b1⟩ := h f0 st ho hf
      obtain ⟨a2, b2, b3⟩ := MadeF.min h k (f f0 st).1 (f f0 st).2 a1.ok a1.lt
      have g1 := a1.grow
      have g2 := a2.grow
      refine ⟨⟨a2.ok, a2.lt, by omega, fun e => a2.keep (a1.keep e), fun e => ?_, ?_, fun e => ?_, fun e hr => ?_⟩, b2, (fun e => by cases e)⟩
      · have e1 : (f f0 st).2.full = false := by cases h : (f f0 st).2.full with
          | false => rfl
          | true => rw [a2.keep h] at e; cases e
        have := a1.edges0 e1; have := a2.edges0 e; omega
      · cases h : (f f0 st).2.full with
        | false => have := a1.edges0 h; have := a2.edges1; omega
        | true => have := a1.edges1; have := b3 h; have := full_len a1.ok a2.ok g2 h; omega
      · have e1 : (f f0 st).2.full = false := by cases h : (f f0 st).2.full with
          | false => rfl
          | true => rw [a2.keep h] at e; cases e
        have := a1.len e1; have := a2.len e
        rw [Nat.succ_mul]; omega
      · rw [Nat.succ_mul] at hr
        have e1 := a1.room e (by omega)
        have := a1.len e1
        exact a2.room e1 (by omega)
/-- A state, and one piece from it on, with edges to and from it. -/
theorem MadeF.one {c s : Nat} {f : NodeF} (h : MadeF c s f) {to f0 : Nat} {st : StD} (ho : StOk st) (hf : f0 < st.rows.length) (ht : to < st.rows.length) : Made (1 + c) (s + 1) st (oneN f to f0 st) := by
  have o1 : StOk (edgeN f0 (freeE to) st) := ho.edge ht
  have m1 := made_state o1
  have hsl := state_lt o1
  have hE1 := edges_edge f0 (freeE to) st
  have hL1 := edge_len f0 (freeE to) st
  have hF1 := edge_full f0 (freeE to) st
  unfold oneN
  generalize edgeN f0 (freeE to) st = st1 at *
  have hE2 := edges_state st1
  have hsn := state_none (st := st1)
  have hL2 := state_len st1
  have hF2 := state_full st1
  generalize stateN st1 = r at *
  have hE3 := edges_edge f0 (freeE r.1) r.2
  have hL3 := edge_len f0 (freeE r.1) r.2
  have hF3 := edge_full f0 (freeE r.1) r.2
  have o3 : StOk (edgeN f0 (freeE r.1) r.2) := m1.ok.edge hsl
  generalize edgeN f0 (freeE r.1) r.2 = st3 at *
  obtain ⟨a, b⟩ := h r.1 st3 o3 (by rw [hL3]; exact hsl)
  have hlen1 := m1.len
  have hg1 := m1.grow
  have hg := a.grow
  have hkeep : st.full = true → st3.full = true := fun e => by rw [hF3]; exact m1.keep (by rw [hF1]; exact e)
  have hnf : (f r.1 st3).2.full = false → st3.full = false := fun e => by cases hh : st3.full with
    | false => rfl
    | true => rw [a.keep hh] at e; cases e
  refine ⟨a.ok, a.lt, by omega, fun e => a.keep (hkeep e), fun e => ?_, ?_, fun e => ?_, fun e hr => ?_⟩
  · have e1 := hnf e
    have := a.edges0 e
    have := hlen1 (by rw [← hF3]; exact e1)
    omega
  · cases h3 : st3.full with
    | true => have := b h3; have := full_len o3 a.ok hg h3; omega
    | false =>
      have := a.edges1
      have := hlen1 (by rw [← hF3]; exact h3)
      omega
  · have e1 := hnf e
    have := a.len e
    have := hlen1 (by rw [← hF3]; exact e1)
    omega
  · have e2 := m1.room (by rw [hF1]; exact e) (by omega)
    have := hlen1 e2
    exact a.room (by rw [hF3]; exact e2) (by omega)
theorem MadeF.max {c s : Nat} {f : NodeF} (h : MadeF c s f) (to : Nat) : ∀ (k : Nat) (f0 : Nat) (st : StD), StOk st → f0 < st.rows.length → to < st.rows.length → Made (k * (1 + c)) (s + 1) st (maxN f to k f0 st).2 ∧ ((maxN f to k f0 st).1 = true → (maxN f to k f0 st).2.2.full = true) ∧ (st.full = true → edgesN (maxN f to k f0 st).2.2 = edgesN st)
  | 0, f0, st, ho, hf, ht => ⟨by rw [maxN, Nat.zero_mul]; exact (Made.refl ho hf).le (Nat.zero_le _), (fun e => by cases e), fun _ => rfl⟩
  | k + 1, f0, st, ho, hf, ht => by
    rw [maxN]
    cases hfull : st.full with
    | true =>
      rw [if_pos rfl]
      have hp := ho.pos
      exact ⟨Made.stay ho (by omega) hfull, fun _ => hfull, fun _ => rfl⟩
    | false =>
      rw [if_neg (by decide)]
      have a1 := h.one ho hf ht
      generalize oneN f to f0 st = p at *
      have g1 := a1.grow
      obtain ⟨a2, b2, b3⟩ := MadeF.max h to k p.1 p.2 a1.ok a1.lt (by omega)
      have g2 := a2.grow
      refine ⟨⟨a2.ok, a2.lt, by omega, fun e => a2.keep (a1.keep e), fun e => ?_, ?_, fun e => ?_, fun e hr => ?_⟩, b2, (fun e => by cases e)⟩
      · have e1 : p.2.full = false := by cases h : p.2.full with
          | false => rfl
          | true => rw [a2.keep h] at e; cases e
        have := a1.edges0 e1; have := a2.edges0 e; omega
      · cases h : p.2.full with
        | false => have := a1.edges0 h; have := a2.edges1; omega
        | true => have := a1.edges1; have := b3 h; have := full_len a1.ok a2.ok g2 h; omega
      · have e1 : p.2.full = false := by cases h : p.2.full with
          | false => rfl
          | true => rw [a2.keep h] at e; cases e
        have := a1.len e1; have := a2.len e
        rw [Nat.succ_mul]; omega
      · rw [Nat.succ_mul] at hr
        have e1 := a1.room e (by omega)
        have := a1.len e1
        exact a2.room e1 (by omega)
theorem Made.full {c c2 s f f1 : Nat} {st s1 : StD} (h : Made c s st (f1, s1)) (hu : s1.full = true) (hf : f < s1.rows.length) (hc : c ≤ c2) : Made c2 s st (f, s1) :=
  ⟨h.ok, hf, h.grow, h.keep, h.edges0, h.edges1, (fun e => absurd (hu.symm.trans e) (by decide)), fun e hr => h.room e (by omega)⟩
theorem made_loop {c s : Nat} {f : NodeF} (h : MadeF c s f) {to f0 : Nat} {st : StD} (ho : StOk st) (hf : f0 < st.rows.length) (ht : to < st.rows.length) :
    StOk (loopN f to f0 st) ∧ st.rows.length ≤ (loopN f to f0 st).rows.length ∧ (st.full = true → (loopN f to f0 st).full = true ∧ edgesN (loopN f to f0 st) ≤ edgesN st + 3) ∧
    ((loopN f to f0 st).full = false → edgesN (loopN f to f0 st) + 1 ≤ edgesN st + 4 * ((loopN f to f0 st).rows.length - st.rows.length) ∧ (loopN f to f0 st).rows.length = st.rows.length + (1 + c)) ∧
    edgesN (loopN f to f0 st) ≤ edgesN st + 4 * ((loopN f to f0 st).rows.length - st.rows.length) + 4 * s + 3 ∧ (st.full = false → st.rows.length + (1 + c) ≤ 4096 → (loopN f to f0 st).full = false) := by
  have m1 := made_state ho
  have hsl := state_lt ho
  have hE2 := edges_state st
  have hsn := state_none (st := st)
  unfold loopN
  dsimp only
  generalize stateN st = r at *
  have g1 := m1.grow
  have hE3 := edges_edge f0 (freeE r.1) r.2
  have hL3 := edge_len f0 (freeE r.1) r.2
  have hF3 := edge_full f0 (freeE r.1) r.2
  have o3 : StOk (edgeN f0 (freeE r.1) r.2) := m1.ok.edge hsl
  generalize edgeN f0 (freeE r.1) r.2 = s3 at *
  have hE4 := edges_edge r.1 (freeE to) s3
  have hL4 := edge_len r.1 (freeE to) s3
  have hF4 := edge_full r.1 (freeE to) s3
  have o4 : StOk (edgeN r.1 (freeE to) s3) := o3.edge (show to < s3.rows.length by omega)
  generalize edgeN r.1 (freeE to) s3 = s4 at *
  obtain ⟨a, b⟩ := h r.1 s4 o4 (by omega)
  have g2 := a.grow
  generalize f r.1 s4 = p at *
  have hE5 := edges_edge p.1 (freeE r.1) p.2
  have hL5 := edge_len p.1 (freeE r.1) p.2
  have hF5 := edge_full p.1 (freeE r.1) p.2
  have o5 : StOk (edgeN p.1 (freeE r.1) p.2) := a.ok.edge (show r.1 < p.2.rows.length by omega)
  generalize edgeN p.1 (freeE r.1) p.2 = s5 at *
  have hnf : p.2.full = false → s4.full = false := fun e => by cases hh : s4.full with
    | false => rfl
    | true => rw [a.keep hh] at e; cases e
  refine ⟨o5, by omega, fun e => ?_, fun e => ?_, ?_, fun e hr => ?_⟩
  · have e4 : s4.full = true := by rw [hF4, hF3]; exact m1.keep e
    refine ⟨by rw [hF5]; exact a.keep e4, ?_⟩
    have := b e4; omega
  · have e5 : p.2.full = false := by rw [← hF5]; exact e
    have e4 := hnf e5
    have := a.edges0 e5
    have := a.len e5
    have := m1.len (by rw [← hF3, ← hF4]; exact e4)
    omega
  · cases e4 : s4.full with
    | true => have := b e4; have := full_len o4 a.ok g2 e4; omega
    | false =>
      have := a.edges1
      have := m1.len (by rw [← hF3, ← hF4]; exact e4)
      omega
  · have e2 := m1.room e (by omega)
    have := m1.len e2
    rw [hF5]
    exact a.room (by rw [hF4, hF3]; exact e2) (by omega)
theorem made_repeat {c s : Nat} {f : NodeF} (h : MadeF c s f) (a b : Int) {f0 : Nat} {st : StD} (ho : StOk st) (hf : f0 < st.rows.length) : Made (a.toNat * c + 1 + (if b < 0 then 1 + c else (b - a).toNat * (1 + c))) (s + 1) st (repeatN f a b f0 st) := by
  unfold repeatN
  obtain ⟨m1, m2, m3⟩ := h.min a.toNat f0 st ho hf
  generalize minN f a.toNat f0 st = M at *
  obtain ⟨stop, f1, s1⟩ := M
  dsimp only at m1 m2 m3
  have hp1 := m1.ok.pos
  have g1 := m1.grow
  cases stop with
  | true => exact (m1.full (m2 rfl) (show 0 < s1.rows.length from hp1) (by omega)).le (by omega)
  | false =>
    have t1 := made_state m1.ok
    have hE1 := edges_state s1
    dsimp only at t1 ⊢
    have o1 := m1.ok
    have hlt1 := m1.lt
    dsimp only at o1 hlt1 g1 hp1
    have t1 : Made 1 0 s1 (stateN s1) := made_state o1
    have hsn := state_none (st := s1)
    generalize stateN s1 = t at *
    have g2 := t1.grow
    have hlt2 := t1.lt
    have hkm : st.full = true → s1.full = true := m1.keep
    by_cases hb : b < 0
    · rw [if_pos hb, if_pos hb]
      obtain ⟨l1, l2, l3, l4, l5, l6⟩ := made_loop h t1.ok (f0 := f1) (to := t.1) (by omega) hlt2
      generalize loopN f t.1 f1 t.2 = s2 at *
      have hk2 : s2.full = false → t.2.full = false := fun e => by cases hh : t.2.full with
        | false => rfl
        | true => rw [(l3 hh).1] at e; cases e
      have hk1 : t.2.full = false → s1.full = false := fun e => by cases hh : s1.full with
        | false => rfl
        | true => rw [t1.keep hh] at e; cases e
      refine ⟨l1, by show t.1 < s2.rows.length; omega, by show st.rows.length ≤ s2.rows.length; omega, fun e => (l3 (t1.keep (hkm e))).1, fun e => ?_, ?_, fun e => ?_, fun e hr => ?_⟩
      · have := l4 e; have := m1.edges0 (hk1 (hk2 e)); have := t1.len (hk2 e)
        dsimp only at *; omega
      · cases e1 : s1.full with
        | true =>
          have := (l3 (t1.keep e1)).2; have := m1.edges1; have := full_len o1 t1.ok g2 e1; have := full_len t1.ok l1 l2 (t1.keep e1)
          dsimp only at *; omega
        | false =>
          have := m1.edges0 e1
          cases e2 : t.2.full with
          | true => have := (l3 e2).2; dsimp only at *; omega
          | false => have := t1.len e2; dsimp only at *; omega
      · have := l4 e; have := m1.len (hk1 (hk2 e)); have := t1.len (hk2 e)
        dsimp only at *; omega
      · have e1 := m1.room e (by omega)
        have := m1.len e1
        dsimp only at *
        have e2 := t1.room e1 (by omega)
        have := t1.len e2
        exact l6 e2 (by omega)
    · rw [if_neg hb, if_neg hb]
      obtain ⟨x1, x2, x3⟩ := h.max t.1 (b - a).toNat f1 t.2 t1.ok (by omega) hlt2
      generalize maxN f t.1 (b - a).toNat f1 t.2 = M2 at *
      obtain ⟨stop, f2, s2⟩ := M2
      dsimp only at x1 x2 x3
      have o2 : StOk s2 := x1.ok
      have g3 : t.2.rows.length ≤ s2.rows.length := x1.grow
      have hlt3 : f2 < s2.rows.length := x1.lt
      have hk1 : t.2.full = false → s1.full = false := fun e => by cases hh : s1.full with
        | false => rfl
        | true => rw [t1.keep hh] at e; cases e
      have hk2 : s2.full = false → t.2.full = false := fun e => by cases hh : t.2.full with
        | false => rfl
        | true => have h2 : s2.full = true := x1.keep hh; rw [h2] at e; cases e
      -- what holds of s2, one edge more or none
      have key : ∀ (v : Nat) (s3 : StD), StOk s3 → v < s3.rows.length → s3.rows.length = s2.rows.length → s3.full = s2.full → edgesN s3 ≤ edgesN s2 + 1 → Made (a.toNat * c + 1 + (b - a).toNat * (1 + c)) (s + 1) st (v, s3) := by
        intro v s3 o3 hv hl3 hf3 he3
        refine ⟨o3, hv, by show st.rows.length ≤ s3.rows.length; omega, fun e => by show s3.full = true; rw [hf3]; exact x1.keep (t1.keep (hkm e)), fun e => ?_, ?_, fun e => ?_, fun e hr => ?_⟩
        · have e2 : s2.full = false := hf3.symm.trans e
          have := x1.edges0 e2; have := t1.len (hk2 e2); have := m1.edges0 (hk1 (hk2 e2))
          dsimp only at *; omega
        · cases e1 : s1.full with
          | true =>
            have := x3 (t1.keep e1); have := m1.edges1; have := full_len o1 t1.ok g2 e1; have := full_len t1.ok o2 g3 (t1.keep e1)
            dsimp only at *; omega
          | false =>
            have := m1.edges0 e1
            cases e2 : t.2.full with
            | true => have := x3 e2; dsimp only at *; omega
            | false => have := t1.len e2; have := x1.edges1; dsimp only at *; omega
        · have e2 : s2.full = false := hf3.symm.trans e
          have := x1.len e2; have := t1.len (hk2 e2); have := m1.len (hk1 (hk2 e2))
          dsimp only at *; omega
        · have e1 := m1.room e (by omega)
          have := m1.len e1
          dsimp only at *
          have e2 := t1.room e1 (by omega)
          have := t1.len e2
          rw [hf3]
          exact x1.room e2 (by omega)
      cases stop with
      | true => exact key 0 s2 o2 (by omega) rfl rfl (by omega)
      | false => exact key t.1 (edgeN f2 (freeE t.1) s2) (o2.edge (show t.1 < s2.rows.length by omega)) (by rw [edge_len]; omega) (edge_len _ _ _) rfl (edges_edge _ _ _)
theorem made_alt : ∀ (l : List RgD), (∀ x ∈ l, MadeF (cntN x) (sizeD x) (nodeN x)) → ∀ (f0 to : Nat) (st : StD), StOk st → f0 < st.rows.length → to < st.rows.length → Made (altsN l) (sizeK l) st (to, altN l f0 to st)
  | [], _, f0, to, st, ho, hf, ht => by rw [altsN, sizeK, altN]; exact Made.refl ho ht
  | x :: l, h, f0, to, st, ho, hf, ht => by
    rw [altsN, sizeK, altN]
    dsimp only
    have hx := h x (by simp)
    have hsz := sizeD_pos x
    have m1 := made_state ho
    have hsl := state_lt ho
    have hE2 := edges_state st
    generalize stateN st = r at *
    have g1 := m1.grow
    have hE3 := edges_edge f0 (freeE r.1) r.2
    have hL3 := edge_len f0 (freeE r.1) r.2
    have hF3 := edge_full f0 (freeE r.1) r.2
    have o3 : StOk (edgeN f0 (freeE r.1) r.2) := m1.ok.edge hsl
    generalize edgeN f0 (freeE r.1) r.2 = s3 at *
    obtain ⟨a, b⟩ := hx r.1 s3 o3 (by omega)
    have g2 := a.grow
    generalize nodeN x r.1 s3 = p at *
    have hE5 := edges_edge p.1 (freeE to) p.2
    have hL5 := edge_len p.1 (freeE to) p.2
    have hF5 := edge_full p.1 (freeE to) p.2
    have o5 : StOk (edgeN p.1 (freeE to) p.2) := a.ok.edge (show to < p.2.rows.length by omega)
    generalize edgeN p.1 (freeE to) p.2 = s5 at *
    have hnf : p.2.full = false → s3.full = false := fun e => by cases hh : s3.full with
      | false => rfl
      | true => rw [a.keep hh] at e; cases e
    have k1 : Made (1 + cntN x) (sizeD x) st (to, s5) := by
      refine ⟨o5, by show to < s5.rows.length; omega, by show st.rows.length ≤ s5.rows.length; omega, fun e => by show s5.full = true; rw [hF5]; exact a.keep (by rw [hF3]; exact m1.keep e), fun e => ?_, ?_, fun e => ?_, fun e hr => ?_⟩
      · have e5 : p.2.full = false := hF5.symm.trans e
        have := a.edges0 e5; have := m1.len (by rw [← hF3]; exact hnf e5)
        dsimp only at *; omega
      · cases e3 : s3.full with
        | true => have := b e3; have := full_len o3 a.ok g2 e3; dsimp only at *; omega
        | false => have := a.edges1; have := m1.len (by rw [← hF3]; exact e3); dsimp only at *; omega
      · have e5 : p.2.full = false := hF5.symm.trans e
        have := a.len e5; have := m1.len (by rw [← hF3]; exact hnf e5)
        dsimp only at *; omega
      · have e2 := m1.room e (by omega)
        have := m1.len e2
        show s5.full = false
        rw [hF5]
        exact a.room (by rw [hF3]; exact e2) (by omega)
    have k2 := made_alt l (fun y hy => h y (by simp [hy])) f0 to s5 o5 (by omega) (by omega)
    have g5 := k1.grow
    have g6 := k2.grow
    refine ⟨k2.ok, k2.lt, Nat.le_trans g5 g6, fun e => k2.keep (k1.keep e), fun e => ?_, ?_, fun e => ?_, fun e hr => ?_⟩
    · have e1 : s5.full = false := by cases hh : s5.full with
        | false => rfl
        | true => have h2 := k2.keep hh; rw [h2] at e; cases e
      have := k1.edges0 e1; have := k2.edges0 e; dsimp only at *; omega
    · have := k1.edges1; have := k2.edges1; dsimp only at *; omega
    · have e1 : s5.full = false := by cases hh : s5.full with
        | false => rfl
        | true => have h2 := k2.keep hh; rw [h2] at e; cases e
      have := k1.len e1; have := k2.len e; dsimp only at *; omega
    · have e1 := k1.room e (by omega)
      have := k1.len e1
      exact k2.room e1 (by dsimp only at *; omega)
theorem made_cat : ∀ (l : List RgD), (∀ x ∈ l, MadeF (cntN x) (sizeD x) (nodeN x)) → MadeF (sumN l) (sizeK l) (catN l)
  | [], _ => fun f0 st ho hf => by rw [sumN, sizeK, catN]; exact ⟨Made.refl ho hf, fun _ => rfl⟩
  | x :: l, h => fun f0 st ho hf => by
    rw [sumN, sizeK, catN]
    exact (MadeF.then (h x (by simp)) (made_cat l (fun y hy => h y (by simp [hy])))) f0 st ho hf
theorem wrongK_all : ∀ {l : List RgD}, wrongK l = 0 → ∀ x ∈ l, wrongD x = 0
  | [], _, x, hx => by cases hx
  | y :: l, h, x, hx => by
    obtain ⟨h1, h2⟩ := wrongK_cons h
    rcases List.mem_cons.1 hx with rfl | hx
    · exact h1
    · exact wrongK_all h2 x hx
theorem made_node : ∀ n : RgD, wrongD n = 0 → MadeF (cntN n) (sizeD n) (nodeN n) := RgD.ind fun k s l a b ih hw f0 st ho hf => by
  obtain ⟨hform, hk⟩ := wrongD_parts hw
  have hk : wrongK l = 0 := hk
  have hall : ∀ x ∈ l, MadeF (cntN x) (sizeD x) (nodeN x) := fun x hx => ih x hx (wrongK_all hk x hx)
  rw [cntN, sizeD, nodeN]
  dsimp only
  cases hfull : st.full with
  | true =>
    rw [if_pos rfl]
    have := ho.pos
    exact ⟨Made.stay ho (by omega) hfull, fun _ => rfl⟩
  | false =>
    rw [if_neg (show ¬ (false = true) by decide)]
    refine ⟨?_, fun e => by cases e⟩
    have hF := form_cases hform
    by_cases h2 : k = 2
    · rw [if_pos h2, if_pos h2]
      have m1 := made_state ho
      have hsl := state_lt ho
      have hE2 := edges_state st
      generalize stateN st = r at *
      have g1 := m1.grow
      have hE3 := edges_edge f0 (setE r.1 s) r.2
      have hL3 := edge_len f0 (setE r.1 s) r.2
      have hF3 := edge_full f0 (setE r.1 s) r.2
      have o3 : StOk (edgeN f0 (setE r.1 s) r.2) := m1.ok.edge hsl
      generalize edgeN f0 (setE r.1 s) r.2 = s3 at *
      refine ⟨o3, by show r.1 < s3.rows.length; omega, by show st.rows.length ≤ s3.rows.length; omega, fun e => by show s3.full = true; rw [hF3]; exact m1.keep e, fun e => ?_, ?_, fun e => ?_, fun e hr => ?_⟩
      · have := m1.len (hF3.symm.trans e); dsimp only at *; omega
      · dsimp only at *; omega
      · have := m1.len (hF3.symm.trans e); dsimp only at *; omega
      · show s3.full = false
        rw [hF3]; exact m1.room e hr
    rw [if_neg h2, if_neg h2]
    by_cases h3 : k = 3
    · rw [if_pos h3, if_pos h3]
      exact ((made_cat l hall) f0 st ho hf).1.le (by omega)
    rw [if_neg h3, if_neg h3]
    by_cases h4 : k = 4
    · rw [if_pos h4, if_pos h4]
      have m1 := made_state ho
      have hsl := state_lt ho
      generalize stateN st = r at *
      have g1 := m1.grow
      have m2 := made_alt l hall f0 r.1 r.2 m1.ok (by omega) hsl
      have g2 := m2.grow
      have := Made.then (s1 := 0) (p := r) m1 m2
      refine ⟨m2.ok, m2.lt, Nat.le_trans g1 g2, fun e => m2.keep (m1.keep e), fun e => ?_, ?_, fun e => ?_, fun e hr => ?_⟩
      · have e1 : r.2.full = false := by cases hh : r.2.full with
          | false => rfl
          | true => have h2 := m2.keep hh; rw [h2] at e; cases e
        have := m1.edges0 e1; have := m2.edges0 e; dsimp only at *; omega
      · have := m1.edges1; have := m2.edges1; dsimp only at *; omega
      · have e1 : r.2.full = false := by cases hh : r.2.full with
          | false => rfl
          | true => have h2 := m2.keep hh; rw [h2] at e; cases e
        have := m1.len e1; have := m2.len e; dsimp only at *; omega
      · have e1 := m1.room e (by omega)
        have := m1.len e1
        exact m2.room e1 (by omega)
    rw [if_neg h4, if_neg h4]
    by_cases h5 : k = 5
    · rw [if_pos h5, if_pos h5]
      cases hF with
      | none => omega
      | one => omega
      | cat => omega
      | alt => omega
      | rep s x a b h =>
        rw [sizeK, sizeK, kidC]
        have hk : kidN [x] = nodeN x := by rw [kidN]
        rw [hk]
        exact made_repeat (hall x (by simp)) a b ho hf
    · rw [if_neg h5, if_neg h5]
      exact (Made.refl ho hf).le (Nat.zero_le _)
end Go.Proofs.YtinbmhbfcoiefaaGreatDoor
end
section
/- Where free edges lead, and edges by a byte: the states that can be reached, as data. No program in sight. -/
namespace Go.Proofs.YtinbmhbfcoiefaaGreatDoor
open Go Go.E
set_option linter.unusedVariables false
set_option maxRecDepth 10000
abbrev RowsN := List (List EdgeD)
def freeTo (rows : RowsN) (s : Nat) : List Nat := ((rows[s]?.getD []).filter (·.free)).map (·.to)
/-- The states that free edges lead to, from some. -/
inductive Rch (rows : RowsN) (list : List Int) : Nat → Prop
  | base {j : Nat} (h : (j : Int) ∈ list) (hj : j < rows.length) : Rch rows list j
  | step {i j : Nat} (h : Rch rows list i) (hj : j ∈ freeTo rows i) : Rch rows list j
def getB (m : List Bool) (i : Nat) : Bool := m[i]?.getD false
def roundR (rows : RowsN) (m : List Bool) : List Bool := (List.range rows.length).map fun j => getB m j || (List.range rows.length).any fun i => getB m i && (freeTo rows i).contains j
def closeR (rows : RowsN) : Nat → List Bool → List Bool
  | 0, m => m
  | k + 1, m => closeR rows k (roundR rows m)
def firstR (rows : RowsN) (list : List Int) : List Bool := (List.range rows.length).map fun j : Nat => list.contains (Int.ofNat j)
def reachN (rows : RowsN) (list : List Int) : List Nat :=
  let m := closeR rows rows.length (firstR rows list)
  (List.range rows.length).filter fun j => getB m j
theorem getB_map {n : Nat} (p : Nat → Bool) (j : Nat) : getB ((List.range n).map p) j = (decide (j < n) && p j) := by
  unfold getB
  rw [List.getElem?_map]
  by_cases h : j < n
  · rw [List.getElem?_range h]; simp [h]
  · rw [List.getElem?_eq_none (by simpa using h)]; simp [h]
def ClosedR (rows : RowsN) (m : List Bool) : Prop := ∀ i j : Nat, getB m i = true → j ∈ freeTo rows i → getB m j = true
def ToIn (rows : RowsN) : Prop := ∀ row ∈ rows, ∀ x ∈ row, x.to < rows.length
theorem freeTo_lt {rows : RowsN} (h : ToIn rows) {i j : Nat} (hj : j ∈ freeTo rows i) : j < rows.length := by
  unfold freeTo at hj
  obtain ⟨x, hx, rfl⟩ := List.mem_map.1 hj
  have hx := (List.mem_filter.1 hx).1
  cases hr : rows[i]? with
  | none => rw [hr] at hx; cases hx
  | some row => rw [hr] at hx; exact h row (List.mem_of_getElem? hr) x hx
theorem freeTo_src {rows : RowsN} {i j : Nat} (hj : j ∈ freeTo rows i) : i < rows.length := by
  apply Classical.byContradiction
  intro hn
  unfold freeTo at hj
  rw [List.getElem?_eq_none (by omega)] at hj
  simp at hj
theorem round_get {rows : RowsN} (h : ToIn rows) (m : List Bool) (j : Nat) : getB (roundR rows m) j = true ↔ (j < rows.length ∧ getB m j = true) ∨ ∃ i, getB m i = true ∧ j ∈ freeTo rows i := by
  unfold roundR
  rw [getB_map, Bool.and_eq_true, decide_eq_true_iff, Bool.or_eq_true, List.any_eq_true]
  constructor
  · rintro ⟨h1, h2 | ⟨i, _, h2⟩⟩
    · exact .inl ⟨h1, h2⟩
    · rw [Bool.and_eq_true, List.contains_iff_mem] at h2
      exact .inr ⟨i, h2.1, h2.2⟩
  · rintro (⟨h1, h2⟩ | ⟨i, h2, h3⟩)
    · exact ⟨h1, .inl h2⟩
    · exact ⟨freeTo_lt h h3, .inr ⟨i, List.mem_range.2 (freeTo_src h3), by rw [Bool.and_eq_true, List.contains_iff_mem]; exact ⟨h2, h3⟩⟩⟩
def cntB (m : List Bool) : Nat := m.count true
theorem cnt_le : ∀ (a b : List Bool), a.length = b.length → (∀ i, getB a i = true → getB b i = true) → cntB a ≤ cntB b
  | [], b, _, _ => Nat.zero_le _
  | x :: a, [], h, _ => by simp at h
  | x :: a, y :: b, h, h2 => by
    have ih := cnt_le a b (by simpa using h) (fun i hi => h2 (i + 1) hi)
    have h0 := h2 0
    unfold cntB at *
    rw [List.count_cons, List.count_cons]
    cases x with
    | false => simp; split <;> omega
    | true => have := h0 rfl; have hy : y = true := this; subst hy; simp; omega
theorem cnt_lt : ∀ (a b : List Bool), a.length = b.length → (∀ i, getB a i = true → getB b i = true) → (∃ i, getB a i = false ∧ getB b i = true) → cntB a + 1 ≤ cntB b
  | [], b, h, _, ⟨i, _, h3⟩ => by
    have : b = [] := List.eq_nil_of_length_eq_zero h.symm
    subst this; simp [getB] at h3
  | x :: a, [], h, _, _ => by simp at h
  | x :: a, y :: b, h, h2, ⟨i, h3, h4⟩ => by
    have hl : a.length = b.length := by simpa using h
    have hle := cnt_le a b hl (fun i hi => h2 (i + 1) hi)
    cases i with
    | zero =>
      have hx : x = false := h3
      have hy : y = true := h4
      subst hx; subst hy
      unfold cntB at *
      rw [List.count_cons, List.count_cons]; simp; omega
    | succ i =>
      have ih := cnt_lt a b hl (fun i hi => h2 (i + 1) hi) ⟨i, h3, h4⟩
      have h0 := h2 0
      unfold cntB at *
      rw [List.count_cons, List.count_cons]
      cases x with
      | false => simp; split <;> omega
      | true => have hy : y = true := h0 rfl; subst hy; simp; omega
theorem cnt_max (m : List Bool) (h : m.length ≤ cntB m) : ∀ i, i < m.length → getB m i = true := by
  intro i hi
  unfold cntB at h
  have h2 : m.count true = m.length := Nat.le_antisymm List.count_le_length h
  have h3 := List.count_eq_length.1 h2
  unfold getB
  rw [List.getElem?_eq_getElem hi, Option.getD_some]
  exact (h3 _ (List.getElem_mem hi)).symm
theorem round_len (rows : RowsN) (m : List Bool) : (roundR rows m).length = rows.length := by simp [roundR]
theorem round_keeps {rows : RowsN} (h : ToIn rows) {m : List Bool} (hl : m.length = rows.length) (i : Nat) (hi : getB m i = true) : getB (roundR rows m) i = true := by
  refine (round_get h m i).2 (.inl ⟨?_, hi⟩)
  apply Classical.byContradiction
  intro hn
  unfold getB at hi
  rw [List.getElem?_eq_none (by omega)] at hi
  cases hi
/-- A round marks more, or nothing is wanting. -/
theorem round_more {rows : RowsN} (h : ToIn rows) {m : List Bool} (hl : m.length = rows.length) : ClosedR rows m ∨ cntB m + 1 ≤ cntB (roundR rows m) := by
  by_cases hc : ClosedR rows m
  · exact .inl hc
  · refine .inr ?_
    unfold ClosedR at hc
    have hex : ∃ i j, getB m i = true ∧ j ∈ freeTo rows i ∧ getB m j = false := by
      apply Classical.byContradiction
      intro hn
      exact hc fun i j h1 h2 => by
        cases h3 : getB m j with
        | true => rfl
        | false => exact absurd ⟨i, j, h1, h2, h3⟩ hn
    obtain ⟨i, j, h1, h2, h3⟩ := hex
    exact cnt_lt m _ (by rw [hl, round_len]) (round_keeps h hl) ⟨j, h3, (round_get h m j).2 (.inr ⟨i, h1, h2⟩)⟩
theorem closed_round {rows : RowsN} (h : ToIn rows) {m : List Bool} (hl : m.length = rows.length) (hc : ClosedR rows m) : ClosedR rows (roundR rows m) := by
  intro i j hi hj
  have hm : getB m i = true := by
    rcases (round_get h m i).1 hi with h1 | ⟨i0, h1, h2⟩
    · exact h1.2
    · exact hc i0 i h1 h2
  exact round_keeps h hl j (hc i j hm hj)
theorem close_closed {rows : RowsN} (h : ToIn rows) : ∀ (k : Nat) (m : List Bool), m.length = rows.length → (ClosedR rows m ∨ rows.length ≤ k + cntB m) → ClosedR rows (closeR rows k m)
  | 0, m, hl, hc => by
    rcases hc with hc | hc
    · exact hc
    · intro i j hi hj
      exact cnt_max m (by omega) j (by rw [hl]; exact freeTo_lt h hj)
  | k + 1, m, hl, hc => by
    rw [closeR]
    refine close_closed h k _ (round_len rows m) ?_
    rcases hc with hc | hc
    · exact .inl (closed_round h hl hc)
    · rcases round_more h hl with h1 | h1
      · exact .inl (closed_round h hl h1)
      · exact .inr (by omega)
theorem close_keeps {rows : RowsN} (h : ToIn rows) : ∀ (k : Nat) (m : List Bool), m.length = rows.length → ∀ i, getB m i = true → getB (closeR rows k m) i = true
  | 0, m, hl, i, hi => hi
  | k + 1, m, hl, i, hi => close_keeps h k _ (round_len rows m) i (round_keeps h hl i hi)
theorem close_sound {rows : RowsN} (h : ToIn rows) {list : List Int} : ∀ (k : Nat) (m : List Bool), (∀ i, getB m i = true → Rch rows list i) → ∀ i, getB (closeR rows k m) i = true → Rch rows list i
  | 0, m, hs, i, hi => hs i hi
  | k + 1, m, hs, i, hi => close_sound h k _ (fun j hj => by
    rcases (round_get h m j).1 hj with h1 | ⟨i0, h1, h2⟩
    · exact hs j h1.2
    · exact .step (hs i0 h1) h2) i hi
theorem first_get {rows : RowsN} {list : List Int} (j : Nat) : getB (firstR rows list) j = true ↔ j < rows.length ∧ (j : Int) ∈ list := by
  unfold firstR
  rw [getB_map, Bool.and_eq_true, decide_eq_true_iff, List.contains_iff_mem]
  exact Iff.rfl
theorem rch_lt {rows : RowsN} (h : ToIn rows) {list : List Int} {j : Nat} (hj : Rch rows list j) : j < rows.length := by
  cases hj with
  | base _ h1 => exact h1
  | step _ h1 => exact freeTo_lt h h1
theorem reach_iff {rows : RowsN} (h : ToIn rows) {list : List Int} (j : Nat) : j ∈ reachN rows list ↔ Rch rows list j := by
  unfold reachN
  dsimp only
  rw [List.mem_filter, List.mem_range]
  have hl : (firstR rows list).length = rows.length := by simp [firstR]
  have hcl := close_closed h rows.length (firstR rows list) hl (.inr (by omega))
  constructor
  · rintro ⟨_, h2⟩
    exact close_sound h _ _ (fun i hi => by obtain ⟨h3, h4⟩ := (first_get i).1 hi; exact .base h4 h3) j h2
  · intro hr
    refine ⟨rch_lt h hr, ?_⟩
    induction hr with
    | base h1 h2 => exact close_keeps h _ _ hl _ ((first_get _).2 ⟨h2, h1⟩)
    | step h1 h2 ih => exact hcl _ _ ih h2
theorem reach_sorted (rows : RowsN) (list : List Int) : (reachN rows list).Pairwise (· < ·) := List.pairwise_lt_range.filter _
theorem reach_lt {rows : RowsN} {list : List Int} {j : Nat} (h : j ∈ reachN rows list) : j < rows.length := by
  unfold reachN at h
  exact List.mem_range.1 (List.mem_filter.1 h).1
theorem sorted_ext : ∀ {a b : List Nat}, a.Pairwise (· < ·) → b.Pairwise (· < ·) → (∀ x, x ∈ a ↔ x ∈ b) → a = b
  | [], [], _, _, _ => rfl
  | [], y :: b, _, _, h => absurd ((h y).2 (by simp)) (by simp)
  | x :: a, [], _, _, h => absurd ((h x).1 (by simp)) (by simp)
  | x :: a, y :: b, ha, hb, h => by
    obtain ⟨a1, a2⟩ := List.pairwise_cons.1 ha
    obtain ⟨b1, b2⟩ := List.pairwise_cons.1 hb
    have e : x = y := by
      rcases List.mem_cons.1 ((h x).1 (by simp)) with e | e
      · exact e
      · rcases List.mem_cons.1 ((h y).2 (by simp)) with e2 | e2
        · exact e2.symm
        · have := b1 x e; have := a1 y e2; omega
    subst e
    congr 1
    refine sorted_ext a2 b2 fun z => ⟨fun hz => ?_, fun hz => ?_⟩
    · rcases List.mem_cons.1 ((h z).1 (by simp [hz])) with e | e
      · have := a1 z hz; omega
      · exact e
    · rcases List.mem_cons.1 ((h z).2 (by simp [hz])) with e | e
      · have := b1 z hz; omega
      · exact e
/-- Numbers as a program has them. -/
def intsN (l : List Nat) : List Int := l.map Int.ofNat
/-- The edges by a byte. -/
def byteTo (rows : RowsN) (c : Nat) (s : Int) : List Int := if 0 ≤ s ∧ s < rows.length then (((rows[s.toNat]?.getD []).filter fun x => !x.free && x.set.has c).map fun x => Int.ofNat x.to) else []
def stepN (rows : RowsN) (list : List Int) (c : Nat) : List Nat := reachN rows (list.flatMap (byteTo rows c))
def startN (rows : RowsN) : List Nat := if rows = [] then [] else reachN rows [0]
/-- An automaton: its edges, and where it ends. -/
structure NfaD where
  rows : RowsN
  last : Int
def endsN (a : NfaD) (list : List Int) : Bool := decide (0 < a.rows.length) && list.contains a.last
def runN (a : NfaD) (b : List UInt8) : List Nat := b.foldl (fun l c => stepN a.rows (intsN l) c.toNat) (startN a.rows)
def matchN (a : NfaD) (b : List UInt8) : Bool := endsN a (intsN (runN a b))
end Go.Proofs.YtinbmhbfcoiefaaGreatDoor
end
section
/- Few parts, none too often; what Make makes; the law NfaGreat; plain. No program in sight. -/
namespace Go.Proofs.YtinbmhbfcoiefaaGreatDoor
open Go Go.E
set_option linter.unusedVariables false
set_option maxRecDepth 10000
mutual
def fewX (mn mx : Int) : RgD → Int → Bool × Int
  | .mk k s l a b => fun left => if (left - 1 < 0 ∨ 30 < l.length) ∨ (k = 5 ∧ (mn < a ∨ mx < b)) then (false, left - 1) else fewY mn mx l (left - 1)
def fewY (mn mx : Int) : List RgD → Int → Bool × Int
  | [] => fun left => (true, left)
  | x :: r => fun left => if (fewX mn mx x left).1 then fewY mn mx r (fewX mn mx x left).2 else (false, (fewX mn mx x left).2)
end

mutual
theorem fewX_left {mn mx : Int} : ∀ (n : RgD) (M : Int), (fewX mn mx n M).1 = true → 0 ≤ (fewX mn mx n M).2 ∧ (fewX mn mx n M).2 ≤ M - 1
  | .mk k s l a b, M, h => by
    rw [fewX] at h ⊢
    dsimp only at h ⊢
    split at h
    · cases h
    · rename_i h1
      rw [if_neg h1]
      have := fewY_left l (M - 1) (by omega) h
      omega
theorem fewY_left {mn mx : Int} : ∀ (l : List RgD) (M : Int), 0 ≤ M → (fewY mn mx l M).1 = true → 0 ≤ (fewY mn mx l M).2 ∧ (fewY mn mx l M).2 ≤ M
  | [], M, h0, h => by rw [fewY]; exact ⟨h0, Int.le_refl _⟩
  | x :: r, M, h0, h => by
    rw [fewY] at h ⊢
    dsimp only at h ⊢
    split at h
    · rename_i h1
      rw [if_pos h1]
      have h2 := fewX_left x M h1
      have := fewY_left r (fewX mn mx x M).2 h2.1 h
      omega
    · cases h
end

def st0 : StD := ⟨[[]], false⟩
theorem st0_ok : StOk st0 := ⟨by decide, by decide, (fun row hr x hx => by simp [st0] at hr; subst hr; cases hx), (fun h => by cases h)⟩
def nilN : NfaD := ⟨[], 0⟩
/-- What Make answers: the error first. -/
def makeN (n : RgD) : Nat × NfaD :=
  if (checkD n 512).1 ≠ 0 then ((checkD n 512).1, nilN)
  else if (nodeN n 0 st0).2.full then (80, nilN)
  else (0, ⟨(nodeN n 0 st0).2.rows, (nodeN n 0 st0).1⟩)
structure NfaOk (a : NfaD) : Prop where
  to : ToIn a.rows
  le : a.rows.length ≤ 4096
  last : a.rows ≠ [] → 0 ≤ a.last ∧ a.last < a.rows.length
theorem nil_ok : NfaOk nilN := ⟨(fun row hr => by cases hr), by decide, fun h => absurd rfl h⟩
theorem make_ok {n : RgD} (hw : wrongD n = 0) : NfaOk (makeN n).2 := by
  have m := (made_node n hw 0 st0 st0_ok (by decide)).1
  unfold makeN
  split
  · exact nil_ok
  split
  · exact nil_ok
  · exact ⟨m.ok.to, m.ok.le, fun _ => ⟨Int.natCast_nonneg _, by have := m.lt; dsimp only; omega⟩⟩
end Go.Proofs.YtinbmhbfcoiefaaGreatDoor
end
section
/- The automaton that is made of an expression is at its end just behind what the expression stands for; how often something stands, where it may be as short as one likes. No program in sight. -/
namespace Go.Proofs.YtinbmhbfcoiefaaGreatDoor
open Go Go.E
set_option linter.unusedVariables false
set_option maxRecDepth 10000
theorem run_snoc (a : NfaD) (b : List UInt8) (c : UInt8) : runN a (b ++ [c]) = stepN a.rows (intsN (runN a b)) c.toNat := by
  unfold runN; rw [List.foldl_append]; rfl
/-! How often. -/
end Go.Proofs.YtinbmhbfcoiefaaGreatDoor
end
section
/- The sets of an automaton's edges; bytes that none of them tells apart; plain. No program in sight. -/
namespace Go.Proofs.YtinbmhbfcoiefaaGreatDoor
open Go Go.E
set_option linter.unusedVariables false
set_option maxRecDepth 10000
def addS (o : List SetD) (x : EdgeD) : List SetD := if x.free = true ∨ x.set ∈ o then o else o ++ [x.set]
def setsN (rows : RowsN) : List SetD := rows.foldl (fun o l => l.foldl addS o) []
theorem adds_mem {s : SetD} : ∀ (l : List EdgeD) (o : List SetD), s ∈ l.foldl addS o ↔ s ∈ o ∨ ∃ x ∈ l, x.free = false ∧ x.set = s
  | [], o => by simp
  | x :: l, o => by
    rw [List.foldl_cons, adds_mem l]
    have h : s ∈ addS o x ↔ s ∈ o ∨ (x.free = false ∧ x.set = s) := by
      unfold addS
      split
      · rename_i h
        constructor
        · exact .inl
        · rintro (h1 | ⟨h1, h2⟩)
          · exact h1
          · rcases h with h | h
            · rw [h1] at h; cases h
            · exact h2 ▸ h
      · rename_i h
        rw [List.mem_append, List.mem_singleton]
        have hf : x.free = false := by cases hh : x.free with
          | false => rfl
          | true => exact absurd (.inl hh) h
        exact ⟨fun h1 => h1.imp id (fun e => ⟨hf, e.symm⟩), fun h1 => h1.imp id (fun e => e.2.symm)⟩
    rw [h]
    constructor
    · rintro ((h1 | h1) | ⟨y, hy, h1⟩)
      · exact .inl h1
      · exact .inr ⟨x, by simp, h1⟩
      · exact .inr ⟨y, by simp [hy], h1⟩
    · rintro (h1 | ⟨y, hy, h1⟩)
      · exact .inl (.inl h1)
      · rcases List.mem_cons.1 hy with rfl | hy
        · exact .inl (.inr h1)
        · exact .inr ⟨y, hy, h1⟩
theorem adds_nodup : ∀ (l : List EdgeD) (o : List SetD), o.Nodup → (l.foldl addS o).Nodup
  | [], o, h => h
  | x :: l, o, h => by
    rw [List.foldl_cons]
    refine adds_nodup l _ ?_
    unfold addS
    split
    · exact h
    · rename_i hn
      exact List.nodup_append.2 ⟨h, by simp, fun a ha b hb e => by
        rw [List.mem_singleton] at hb
        subst hb; subst e
        exact hn (.inr ha)⟩
theorem rowsS_mem {s : SetD} : ∀ (rows : RowsN) (o : List SetD), s ∈ rows.foldl (fun o l => l.foldl addS o) o ↔ s ∈ o ∨ ∃ l ∈ rows, ∃ x ∈ l, x.free = false ∧ x.set = s
  | [], o => by simp
  | l :: rows, o => by
    rw [List.foldl_cons, rowsS_mem rows, adds_mem]
    constructor
    · rintro ((h | ⟨x, h⟩) | ⟨m, hm, h⟩)
      · exact .inl h
      · exact .inr ⟨l, by simp, x, h⟩
      · exact .inr ⟨m, by simp [hm], h⟩
    · rintro (h | ⟨m, hm, h⟩)
      · exact .inl (.inl h)
      · rcases List.mem_cons.1 hm with rfl | hm
        · exact .inl (.inr h)
        · exact .inr ⟨m, hm, h⟩
theorem sets_mem {rows : RowsN} {s : SetD} : s ∈ setsN rows ↔ ∃ l ∈ rows, ∃ x ∈ l, x.free = false ∧ x.set = s := by
  unfold setsN; rw [rowsS_mem]; simp
theorem sets_nodup (rows : RowsN) : (setsN rows).Nodup := by
  unfold setsN
  have : ∀ (rows : RowsN) (o : List SetD), o.Nodup → (rows.foldl (fun o l => l.foldl addS o) o).Nodup := by
    intro rows
    induction rows with
    | nil => exact fun o h => h
    | cons l rows ih => intro o h; rw [List.foldl_cons]; exact ih _ (adds_nodup l o h)
  exact this rows [] List.nodup_nil
/-- Bytes that no set tells apart lead to the same. -/
theorem byteTo_like {rows : RowsN} {c d : Nat} (h : ∀ s ∈ setsN rows, s.has c = s.has d) (i : Int) : byteTo rows c i = byteTo rows d i := by
  unfold byteTo
  split
  · congr 1
    cases hr : rows[i.toNat]? with
    | none => rfl
    | some row =>
      simp only [Option.getD_some]
      apply List.filter_congr
      intro x hx
      cases hf : x.free with
      | true => rfl
      | false =>
        have := h x.set (sets_mem.2 ⟨row, List.mem_of_getElem? hr, x, hx, hf, rfl⟩)
        rw [this]
  · rfl
theorem step_like {rows : RowsN} {c d : Nat} (h : ∀ s ∈ setsN rows, s.has c = s.has d) (list : List Int) : stepN rows list c = stepN rows list d := by
  unfold stepN
  congr 1
  rw [show byteTo rows c = byteTo rows d from funext fun i => byteTo_like h i]
/-! The sets are those of the expression's parts. -/
mutual
def onesN : RgD → List SetD
  | .mk k s l a b => if k = 2 then [s] else onesK l
def onesK : List RgD → List SetD
  | [] => []
  | x :: r => onesN x ++ onesK r
end

mutual
theorem ones_len : ∀ n : RgD, (onesN n).length ≤ sizeD n
  | .mk k s l a b => by
    rw [onesN, sizeD]
    split
    · simp
    · have := onesK_len l; omega
theorem onesK_len : ∀ l : List RgD, (onesK l).length ≤ sizeK l
  | [] => Nat.le_refl _
  | x :: r => by rw [onesK, sizeK, List.length_append]; have := ones_len x; have := onesK_len r; omega
end

theorem onesK_mem {l : List RgD} {x : RgD} (hx : x ∈ l) {s : SetD} (hs : s ∈ onesN x) : s ∈ onesK l := by
  induction l with
  | nil => cases hx
  | cons y l ih =>
    rw [onesK, List.mem_append]
    rcases List.mem_cons.1 hx with rfl | hx
    · exact .inl hs
    · exact .inr (ih hx)
/-- Each edge that came is free, or its set is one of these. -/
def SetsIn (O : SetD → Prop) (st : StD) : Prop := ∀ row ∈ st.rows, ∀ x ∈ row, x.free = true ∨ O x.set
theorem SetsIn.state {O : SetD → Prop} {st : StD} (h : SetsIn O st) : SetsIn O (stateN st).2 := by
  unfold stateN
  split
  · exact h
  · intro row hr x hx
    rcases List.mem_append.1 hr with hr | hr
    · exact h row hr x hx
    · rw [List.mem_singleton] at hr; subst hr; cases hx
theorem SetsIn.edge {O : SetD → Prop} {st : StD} (h : SetsIn O st) {f : Nat} {y : EdgeD} (hy : y.free = true ∨ O y.set) : SetsIn O (edgeN f y st) := by
  intro row hr x hx
  unfold edgeN at hr
  rcases List.mem_or_eq_of_mem_set hr with hr | rfl
  · exact h row hr x hx
  · rcases List.mem_append.1 hx with hx | hx
    · cases hg : st.rows[f]? with
      | none => rw [hg] at hx; cases hx
      | some r0 => rw [hg] at hx; exact h r0 (List.mem_of_getElem? hg) x hx
    · rw [List.mem_singleton] at hx; subst hx; exact hy
def SetsF (O : SetD → Prop) (f : NodeF) : Prop := ∀ (f0 : Nat) (st : StD), SetsIn O st → SetsIn O (f f0 st).2
theorem SetsF.min {O : SetD → Prop} {f : NodeF} (h : SetsF O f) : ∀ (k f0 : Nat) (st : StD), SetsIn O st → SetsIn O (minN f k f0 st).2.2
  | 0, f0, st, hs => hs
  | k + 1, f0, st, hs => by
    rw [minN]
    split
    · exact hs
    · exact SetsF.min h k _ _ (h f0 st hs)
theorem SetsF.max {O : SetD → Prop} {f : NodeF} (h : SetsF O f) (to : Nat) : ∀ (k f0 : Nat) (st : StD), SetsIn O st → SetsIn O (maxN f to k f0 st).2.2
  | 0, f0, st, hs => hs
  | k + 1, f0, st, hs => by
    rw [maxN]
    split
    · exact hs
    · exact SetsF.max h to k _ _ (h _ _ ((hs.edge (.inl rfl)).state.edge (.inl rfl)))
theorem sets_repeat {O : SetD → Prop} {f : NodeF} (h : SetsF O f) (a b : Int) : SetsF O (repeatN f a b) := by
  intro f0 st hs
  unfold repeatN
  have h1 := h.min a.toNat f0 st hs
  generalize minN f a.toNat f0 st = M at *
  obtain ⟨stop, f1, s1⟩ := M
  cases stop with
  | true => exact h1
  | false =>
    dsimp only at h1 ⊢
    split
    · unfold loopN
      exact (h _ _ ((h1.state.state.edge (.inl rfl)).edge (.inl rfl))).edge (.inl rfl)
    · have h2 := h.max (stateN s1).1 (b - a).toNat f1 (stateN s1).2 h1.state
      generalize maxN f (stateN s1).1 (b - a).toNat f1 (stateN s1).2 = M2 at *
      obtain ⟨stop, f2, s2⟩ := M2
      cases stop with
      | true => exact h2
      | false => exact SetsIn.edge h2 (.inl rfl)
theorem sets_alt {O : SetD → Prop} : ∀ (l : List RgD), (∀ x ∈ l, SetsF O (nodeN x)) → ∀ (f0 to : Nat) (st : StD), SetsIn O st → SetsIn O (altN l f0 to st)
  | [], _, f0, to, st, hs => by rw [altN]; exact hs
  | x :: l, h, f0, to, st, hs => by
    rw [altN]
    exact sets_alt l (fun y hy => h y (by simp [hy])) _ _ _ (SetsIn.edge (h x (by simp) _ _ (hs.state.edge (.inl rfl))) (.inl rfl))
theorem sets_cat {O : SetD → Prop} : ∀ (l : List RgD), (∀ x ∈ l, SetsF O (nodeN x)) → SetsF O (catN l)
  | [], _ => fun f0 st hs => by rw [catN]; exact hs
  | x :: l, h => fun f0 st hs => by
    rw [catN]
    exact sets_cat l (fun y hy => h y (by simp [hy])) _ _ (h x (by simp) f0 st hs)
theorem sets_node {O : SetD → Prop} : ∀ n : RgD, (∀ s ∈ onesN n, O s) → SetsF O (nodeN n) := RgD.ind fun k s l a b ih hO f0 st hs => by
  rw [nodeN]
  dsimp only
  split
  · exact hs
  split
  · rename_i h2
    rw [onesN, if_pos h2] at hO
    exact hs.state.edge (.inr (hO s (by simp)))
  rename_i h2
  rw [onesN, if_neg h2] at hO
  have hall : ∀ x ∈ l, SetsF O (nodeN x) := fun x hx => ih x hx fun z hz => hO z (onesK_mem hx hz)
  split
  · exact sets_cat l hall f0 st hs
  split
  · exact sets_alt l hall _ _ _ hs.state
  split
  · refine sets_repeat ?_ a b f0 st hs
    cases l with
    | nil => rw [kidN]; exact fun _ _ h => h
    | cons x l => rw [kidN]; exact hall x (by simp)
  · exact hs
theorem sets_few {n : RgD} : ∀ s ∈ setsN (makeN n).2.rows, s ∈ onesN n := by
  intro s hs
  obtain ⟨l, hl, x, hx, hf, rfl⟩ := sets_mem.1 hs
  have h0 : SetsIn (fun s => s ∈ onesN n) st0 := fun row hr x hx => by simp [st0] at hr; subst hr; cases hx
  have h := sets_node n (O := fun s => s ∈ onesN n) (fun s h => h) 0 st0 h0
  unfold makeN at hl
  split at hl
  · cases hl
  split at hl
  · cases hl
  · rcases h l hl x hx with h1 | h1
    · rw [hf] at h1; cases h1
    · exact h1
theorem nodup_le {α : Type} [DecidableEq α] : ∀ {a b : List α}, a.Nodup → (∀ x ∈ a, x ∈ b) → a.length ≤ b.length
  | [], b, _, _ => Nat.zero_le _
  | x :: a, b, hn, h => by
    obtain ⟨h1, h2⟩ := List.nodup_cons.1 hn
    have hx := h x (by simp)
    have := nodup_le (a := a) (b := b.erase x) h2 (fun y hy => (List.mem_erase_of_ne (show y ≠ x from fun e => h1 (e ▸ hy))).2 (h y (by simp [hy])))
    rw [List.length_erase_of_mem hx] at this
    have hp := List.length_pos_of_mem hx
    rw [List.length_cons]; omega
theorem sets_len (n : RgD) : (setsN (makeN n).2.rows).length ≤ sizeD n := Nat.le_trans (nodup_le (sets_nodup _) sets_few) (ones_len n)
end Go.Proofs.YtinbmhbfcoiefaaGreatDoor
end
section
/- Automata that are in one state, made of sets of states: as data, and that they answer alike. No program in sight. -/
namespace Go.Proofs.YtinbmhbfcoiefaaGreatDoor
open Go Go.E
set_option linter.unusedVariables false
set_option maxRecDepth 10000
/-- An automaton in one state: of each byte its class, of each state the states behind it by each class, whether it ends there. -/
structure DfaA where
  cls : List Nat
  next : List (List Int)
  acc : List Bool
deriving DecidableEq
def stepA (a : DfaA) (s : Int) (c : Nat) : Int := if s < 0 ∨ (a.next.length : Int) ≤ s then -1 else ((a.next[s.toNat]?.getD [])[a.cls[c]?.getD 0]?).getD (-1)
def endsA (a : DfaA) (s : Int) : Bool := decide (0 ≤ s) && decide (s < a.acc.length) && a.acc[s.toNat]?.getD false
def runA (a : DfaA) (b : List UInt8) : Int := b.foldl (fun s c => stepA a s c.toNat) 0
def matchA (a : DfaA) (b : List UInt8) : Bool := endsA a (runA a b)
/-- What holds of each: rows of one width, classes below it, states that are. -/
structure DfaOk (w : Nat) (a : DfaA) : Prop where
  cls : a.cls.length = 256
  low : ∀ k ∈ a.cls, k < w
  acc : a.acc.length = a.next.length
  row : ∀ r ∈ a.next, r.length = w
  to : ∀ r ∈ a.next, ∀ z ∈ r, z = -1 ∨ (0 ≤ z ∧ z < a.next.length)
def firstC (p : SetD) : Nat := ((List.range 256).find? p.has).getD 0
def rowG (rows : RowsN) (cur : List Nat) : List SetD → List (List Nat) → List Int → Option (List (List Nat) × List Int)
  | [], sets, row => some (sets, row)
  | p :: ps, sets, row =>
    if stepN rows (intsN cur) (firstC p) = [] then rowG rows cur ps sets (row ++ [-1])
    else match sets.idxOf? (stepN rows (intsN cur) (firstC p)) with
      | some k => rowG rows cur ps sets (row ++ [(k : Int)])
      | none => if sets.length = 1024 then none else rowG rows cur ps (sets ++ [stepN rows (intsN cur) (firstC p)]) (row ++ [(sets.length : Int)])
def subG (a : NfaD) (P : List SetD) : Nat → List (List Nat) → List (List Int) → List Bool → Option (List (List Nat) × List (List Int) × List Bool)
  | 0, sets, next, acc => some (sets, next, acc)
  | k + 1, sets, next, acc =>
    match sets[next.length]? with
    | none => some (sets, next, acc)
    | some cur =>
      match rowG a.rows cur P sets [] with
      | none => none
      | some r => subG a P k r.1 (next ++ [r.2]) (acc ++ [endsN a (intsN cur)])
def clsG (P : List SetD) : List Nat := (List.range 256).map fun c => (P.findIdx? fun p => p.has c).getD 0
def nilA : DfaA := ⟨List.replicate 256 0, [], []⟩
def piecesG (a : NfaD) : List SetD := splitD (setsN a.rows)
def makeA (a : NfaD) : Nat × DfaA :=
  if a.rows = [] then (160, nilA) else
  match subG a (piecesG a) 1025 [startN a.rows] [] [] with
  | none => (80, nilA)
  | some r => (0, ⟨clsG (piecesG a), r.2.1, r.2.2⟩)
/-- Some sets, and rows of numbers of sets. -/
structure SubOk (a : NfaD) (P : List SetD) (sets : List (List Nat)) (next : List (List Int)) (acc : List Bool) : Prop where
  start : sets[0]? = some (startN a.rows)
  le : sets.length ≤ 1024
  nlen : next.length ≤ sets.length
  alen : acc.length = next.length
  nodup : sets.Nodup
  some' : ∀ t ∈ sets, t ≠ []
  row : ∀ (s : Nat) (r : List Int) (cur : List Nat), next[s]? = some r → sets[s]? = some cur → r.length = P.length ∧ ∀ (k : Nat) (p : SetD), P[k]? = some p →
    (stepN a.rows (intsN cur) (firstC p) = [] ∧ r[k]? = some (-1)) ∨ ∃ i : Nat, sets[i]? = some (stepN a.rows (intsN cur) (firstC p)) ∧ r[k]? = some (i : Int)
  acc : ∀ (s : Nat) (cur : List Nat), s < next.length → sets[s]? = some cur → acc[s]? = some (endsN a (intsN cur))
  met : ∀ (i : Nat), 0 < i → i < sets.length → ∃ (s k : Nat) (r : List Int), s < i ∧ next[s]? = some r ∧ r[k]? = some (i : Int)
/-- A row, and what it adds. -/
theorem row_ok {rows : RowsN} {cur : List Nat} : ∀ (ps : List SetD) (sets : List (List Nat)) (row : List Int) (sets2 : List (List Nat)) (row2 : List Int), rowG rows cur ps sets row = some (sets2, row2) → sets.length ≤ 1024 → sets.Nodup → (∀ t ∈ sets, t ≠ []) →
    (∃ e, sets2 = sets ++ e) ∧ sets2.length ≤ 1024 ∧ sets2.Nodup ∧ (∀ t ∈ sets2, t ≠ []) ∧ (∃ f : List Int, row2 = row ++ f ∧ f.length = ps.length ∧ (∀ (k : Nat) (p : SetD), ps[k]? = some p → (stepN rows (intsN cur) (firstC p) = [] ∧ f[k]? = some (-1)) ∨ ∃ i : Nat, sets2[i]? = some (stepN rows (intsN cur) (firstC p)) ∧ f[k]? = some (i : Int)) ∧
      (∀ i : Nat, sets.length ≤ i → i < sets2.length → ∃ k : Nat, f[k]? = some (i : Int)))
  | [], sets, row, sets2, row2, h, hl, hn, hs => by
    rw [rowG] at h
    cases h
    exact ⟨⟨[], by simp⟩, hl, hn, hs, [], by simp, rfl, (fun k p hp => by simp at hp), fun i h1 h2 => by omega⟩
  | p :: ps, sets, row, sets2, row2, h, hl, hn, hs => by
    rw [rowG] at h
    split at h
    · rename_i h0
      obtain ⟨a1, a2, a3, a4, f, f1, f2, f3, f4⟩ := row_ok ps sets _ _ _ h hl hn hs
      refine ⟨a1, a2, a3, a4, -1 :: f, by rw [f1]; simp, by simp [f2], fun k q hq => ?_, fun i h1 h2 => by obtain ⟨k, hk⟩ := f4 i h1 h2; exact ⟨k + 1, hk⟩⟩
      cases k with
      | zero => simp at hq; subst hq; exact .inl ⟨h0, rfl⟩
      | succ k => exact f3 k q hq
    · rename_i h0
      split at h
      · rename_i k0 hk0
        obtain ⟨a1, a2, a3, a4, f, f1, f2, f3, f4⟩ := row_ok ps sets _ _ _ h hl hn hs
        refine ⟨a1, a2, a3, a4, (k0 : Int) :: f, by rw [f1]; simp, by simp [f2], fun k q hq => ?_, fun i h1 h2 => by obtain ⟨k, hk⟩ := f4 i h1 h2; exact ⟨k + 1, hk⟩⟩
        cases k with
        | zero =>
          simp at hq; subst hq
          refine .inr ⟨k0, ?_, rfl⟩
          obtain ⟨e, he⟩ := a1
          obtain ⟨hlt, h1, _⟩ := List.findIdx?_eq_some_iff_getElem.1 hk0
          rw [he, List.getElem?_append_left hlt, List.getElem?_eq_getElem hlt, eq_of_beq h1]
        | succ k => exact f3 k q hq
      · rename_i hk0
        split at h
        · cases h
        · rename_i hne
          have hnm : stepN rows (intsN cur) (firstC p) ∉ sets := fun hm => by
            have := List.findIdx?_eq_none_iff.1 hk0 _ hm
            simp at this
          have hn2 : (sets ++ [stepN rows (intsN cur) (firstC p)]).Nodup := List.nodup_append.2 ⟨hn, by simp, fun x hx y hy e => by
            rw [List.mem_singleton] at hy; subst hy; subst e; exact hnm hx⟩
          obtain ⟨a1, a2, a3, a4, f, f1, f2, f3, f4⟩ := row_ok ps (sets ++ [stepN rows (intsN cur) (firstC p)]) _ _ _ h (by simp; omega) hn2 (fun t ht => by
            rcases List.mem_append.1 ht with ht | ht
            · exact hs t ht
            · rw [List.mem_singleton] at ht; rw [ht]; exact h0)
          obtain ⟨e, he⟩ := a1
          refine ⟨⟨stepN rows (intsN cur) (firstC p) :: e, by rw [he]; simp⟩, a2, a3, a4, (sets.length : Int) :: f, by rw [f1]; simp, by simp [f2], fun k q hq => ?_, fun i h1 h2 => ?_⟩
          · cases k with
            | zero =>
              simp at hq; subst hq
              refine .inr ⟨sets.length, ?_, rfl⟩
              rw [he, List.getElem?_append_left (by simp), List.getElem?_append_right (Nat.le_refl _), Nat.sub_self]; rfl
            | succ k => exact f3 k q hq
          · by_cases e2 : i = sets.length
            · exact ⟨0, by rw [e2]; rfl⟩
            · obtain ⟨k, hk⟩ := f4 i (by simp; omega) h2
              exact ⟨k + 1, hk⟩
theorem sub_ok {a : NfaD} {P : List SetD} : ∀ (fuel : Nat) (sets : List (List Nat)) (next : List (List Int)) (acc : List Bool) (r : List (List Nat) × List (List Int) × List Bool), subG a P fuel sets next acc = some r → SubOk a P sets next acc → 1024 < fuel + next.length → SubOk a P r.1 r.2.1 r.2.2 ∧ r.2.1.length = r.1.length
  | 0, sets, next, acc, r, h, ho, hf => by have := ho.nlen; have := ho.le; omega
  | fuel + 1, sets, next, acc, r, h, ho, hf => by
    rw [subG] at h
    split at h
    · rename_i hn
      cases h
      have := List.getElem?_eq_none_iff.1 hn
      exact ⟨ho, by have := ho.nlen; dsimp only; omega⟩
    · rename_i cur hcur
      split at h
      · cases h
      · rename_i r2 hr2
        obtain ⟨sets2, row2⟩ := r2
        obtain ⟨⟨e, he⟩, a2, a3, a4, f, f1, f2, f3, f4⟩ := row_ok P sets [] sets2 row2 hr2 ho.le ho.nodup ho.some'
        rw [List.nil_append] at f1
        subst f1
        have hlt := (List.getElem?_eq_some_iff.1 hcur).1
        have hold : ∀ (i : Nat) (t : List Nat), sets[i]? = some t → sets2[i]? = some t := fun i t h => by
          have := (List.getElem?_eq_some_iff.1 h).1
          rw [he, List.getElem?_append_left this, h]
        have hold2 : ∀ (i : Nat) (t : List Nat), i < sets.length → sets2[i]? = some t → sets[i]? = some t := fun i t h1 h => by
          rw [he, List.getElem?_append_left h1] at h; exact h
        refine sub_ok fuel sets2 (next ++ [row2]) (acc ++ [endsN a (intsN cur)]) r h ⟨hold _ _ ho.start, a2, ?_, by simp [ho.alen], a3, a4, ?_, ?_, ?_⟩ (by simp; omega)
        · rw [he]; simp; omega
        · intro s r cs hs hcs
          by_cases e1 : s < next.length
          · rw [List.getElem?_append_left e1] at hs
            obtain ⟨q1, q2⟩ := ho.row s r cs hs (hold2 s cs (by have := ho.nlen; omega) hcs)
            refine ⟨q1, fun k p hp => ?_⟩
            rcases q2 k p hp with h3 | ⟨i, h3, h4⟩
            · exact .inl h3
            · exact .inr ⟨i, hold _ _ h3, h4⟩
          · have e2 : s = next.length := by have := (List.getElem?_eq_some_iff.1 hs).1; simp at this; omega
            subst e2
            rw [List.getElem?_append_right (Nat.le_refl _), Nat.sub_self] at hs
            have hs : row2 = r := by simpa using hs
            subst hs
            have hcc := hold2 _ _ hlt hcs
            rw [hcur] at hcc
            cases hcc
            exact ⟨f2, f3⟩
        · intro s cs hs hcs
          rw [List.length_append, List.length_singleton] at hs
          by_cases e1 : s < next.length
          · rw [List.getElem?_append_left (by rw [ho.alen]; exact e1)]
            exact ho.acc s cs e1 (hold2 s cs (by have := ho.nlen; omega) hcs)
          · have e2 : s = next.length := by omega
            subst e2
            have hcc := hold2 _ _ hlt hcs
            rw [hcur] at hcc
            cases hcc
            rw [List.getElem?_append_right (by rw [ho.alen]; exact Nat.le_refl _), ho.alen, Nat.sub_self]; rfl
        · intro i h0 h1
          by_cases e1 : i < sets.length
          · obtain ⟨s, k, r, q1, q2, q3⟩ := ho.met i h0 e1
            exact ⟨s, k, r, q1, by rw [List.getElem?_append_left (List.getElem?_eq_some_iff.1 q2).1]; exact q2, q3⟩
          · obtain ⟨k, hk⟩ := f4 i (by omega) h1
            exact ⟨next.length, k, row2, by omega, by rw [List.getElem?_append_right (Nat.le_refl _), Nat.sub_self]; rfl, hk⟩
theorem firstC_is {p : SetD} {c : Nat} (h : p.firstIs c = true) : firstC p = c := by
  unfold SetD.firstIs at h
  rw [beq_iff_eq] at h
  unfold firstC; rw [h]; rfl
/-- The class of a byte is the place of its piece. -/
theorem cls_at {P l : List SetD} (h : Cuts P l) {c : Nat} (hc : c < 256) : ∃ (k : Nat) (p : SetD), (clsG P)[c]? = some k ∧ P[k]? = some p ∧ p.has c = true := by
  obtain ⟨p, hp, hpc⟩ := h.all c hc
  unfold clsG
  rw [List.getElem?_map, List.getElem?_range hc]
  cases hf : P.findIdx? (fun p => p.has c) with
  | none => have := List.findIdx?_eq_none_iff.1 hf p hp; rw [hpc] at this; cases this
  | some k =>
    obtain ⟨h1, h2, _⟩ := List.findIdx?_eq_some_iff_getElem.1 hf
    refine ⟨k, P[k], ?_, List.getElem?_eq_getElem h1, h2⟩
    show some ((P.findIdx? fun p => p.has c).getD 0) = some k
    rw [hf]; rfl
theorem cls_len (P : List SetD) : (clsG P).length = 256 := by simp [clsG]
/-- An automaton that is in one state, and the sets of states that its states are. -/
structure Subs (a : NfaD) (d : DfaA) (sets : List (List Nat)) : Prop where
  ok : SubOk a (piecesG a) sets d.next d.acc
  len : d.next.length = sets.length
  cls : d.cls = clsG (piecesG a)
theorem makeA_subs {a : NfaD} (ha : ToIn a.rows) (h : (makeA a).1 = 0) : ∃ sets, Subs a (makeA a).2 sets ∧ a.rows ≠ [] := by
  unfold makeA at h ⊢
  split at h
  · cases h
  · rename_i hne
    rw [if_neg hne]
    split at h
    · cases h
    · rename_i r hr
      have hst : startN a.rows ≠ [] := by
        unfold startN
        rw [if_neg hne]
        intro e
        have : (0 : Nat) ∈ reachN a.rows [0] := (reach_iff ha 0).2 (.base (by simp) (List.length_pos_iff.2 hne))
        rw [e] at this; cases this
      obtain ⟨h1, h2⟩ := sub_ok 1025 _ _ _ r hr ⟨rfl, by simp, by simp, rfl, by simp, (fun t ht => by rw [List.mem_singleton] at ht; rw [ht]; exact hst), (fun s r cur hs => by simp at hs), (fun s cur hs => by simp at hs), (fun i h0 h1 => by simp at h1; omega)⟩ (by simp)
      exact ⟨r.1, ⟨h1, h2, rfl⟩, hne⟩
end Go.Proofs.YtinbmhbfcoiefaaGreatDoor
end
section
/- States that stand for the same: from which states an end can be reached, and groups of states, again and again. No program in sight. -/
namespace Go.Proofs.YtinbmhbfcoiefaaGreatDoor
open Go Go.E
set_option linter.unusedVariables false
set_option maxRecDepth 10000
/-- What a state stands for. -/
def resA (a : DfaA) (s : Int) (b : List UInt8) : Bool := endsA a (b.foldl (fun s c => stepA a s c.toNat) s)
theorem res_match (a : DfaA) (b : List UInt8) : matchA a b = resA a 0 b := rfl
theorem res_cons (a : DfaA) (s : Int) (c : UInt8) (b : List UInt8) : resA a s (c :: b) = resA a (stepA a s c.toNat) b := rfl
theorem step_dead {a : DfaA} {s : Int} (h : s < 0) (c : Nat) : stepA a s c = -1 := by unfold stepA; rw [if_pos (.inl h)]
theorem res_dead {a : DfaA} : ∀ (b : List UInt8) {s : Int}, s < 0 → resA a s b = false
  | [], s, h => by
    unfold resA endsA
    rw [List.foldl_nil, decide_eq_false (show ¬ 0 ≤ s by omega)]; rfl
  | c :: b, s, h => by rw [res_cons, step_dead h]; exact res_dead b (by omega)
def widthA (a : DfaA) : Nat := (a.next[0]?.getD []).length
/-- Each class is some byte's. -/
def SurA (w : Nat) (a : DfaA) : Prop := ∀ k, k < w → ∃ c : Nat, c < 256 ∧ a.cls[c]? = some k
theorem step_at {w : Nat} {a : DfaA} (h : DfaOk w a) {s : Nat} (hs : s < a.next.length) {c : Nat} (hc : c < 256) : ∃ (k : Nat) (r : List Int), a.cls[c]? = some k ∧ k < w ∧ a.next[s]? = some r ∧ r[k]? = some (stepA a (s : Int) c) := by
  have hcl : c < a.cls.length := by rw [h.cls]; exact hc
  have hk := h.low _ (List.getElem_mem hcl)
  have hr := h.row _ (List.getElem_mem hs)
  refine ⟨a.cls[c], a.next[s], List.getElem?_eq_getElem hcl, hk, List.getElem?_eq_getElem hs, ?_⟩
  unfold stepA
  rw [if_neg (by omega), Int.toNat_natCast, List.getElem?_eq_getElem hs, List.getElem?_eq_getElem hcl]
  simp only [Option.getD_some]
  rw [List.getElem?_eq_getElem (show a.cls[c] < a.next[s].length by omega)]; rfl
theorem step_to {w : Nat} {a : DfaA} (h : DfaOk w a) (s : Int) {c : Nat} (hc : c < 256) : stepA a s c = -1 ∨ ∃ t : Nat, stepA a s c = (t : Int) ∧ t < a.next.length := by
  by_cases hs : 0 ≤ s ∧ s < a.next.length
  · obtain ⟨n, rfl⟩ : ∃ n : Nat, s = (n : Int) := ⟨s.toNat, by omega⟩
    obtain ⟨k, r, h1, h2, h3, h4⟩ := step_at h (s := n) (by omega) hc
    rcases h.to r (List.mem_of_getElem? h3) _ (List.mem_of_getElem? h4) with h5 | h5
    · exact .inl h5
    · exact .inr ⟨(stepA a (n : Int) c).toNat, by omega, by omega⟩
  · unfold stepA
    rw [if_pos (by omega)]; exact .inl rfl
/-! From which states an end can be reached. -/
def LiveA (a : DfaA) (s : Nat) : Prop := ∃ b, resA a (s : Int) b = true
def liveR (a : DfaA) (m : List Bool) : List Bool := (List.range a.next.length).map fun s => getB m s || (a.next[s]?.getD []).any fun z => decide (0 ≤ z) && getB m z.toNat
def liveL (a : DfaA) : Nat → List Bool → List Bool
  | 0, m => m
  | k + 1, m => liveL a k (liveR a m)
def liveA (a : DfaA) : List Bool := liveL a a.next.length a.acc
def ClosedA (a : DfaA) (m : List Bool) : Prop := ∀ (s : Nat) (z : Int), z ∈ a.next[s]?.getD [] → 0 ≤ z → getB m z.toNat = true → getB m s = true
theorem liveR_get {a : DfaA} (m : List Bool) (s : Nat) : getB (liveR a m) s = true ↔ s < a.next.length ∧ (getB m s = true ∨ ∃ z ∈ a.next[s]?.getD [], 0 ≤ z ∧ getB m z.toNat = true) := by
  unfold liveR
  rw [getB_map, Bool.and_eq_true, decide_eq_true_iff, Bool.or_eq_true, List.any_eq_true]
  simp only [Bool.and_eq_true, decide_eq_true_iff]
theorem getB_lt {m : List Bool} {i : Nat} (h : getB m i = true) : i < m.length := by
  apply Classical.byContradiction
  intro hn
  unfold getB at h
  rw [List.getElem?_eq_none (by omega)] at h; cases h
theorem next_lt {a : DfaA} {s : Nat} {z : Int} (h : z ∈ a.next[s]?.getD []) : s < a.next.length := by
  apply Classical.byContradiction
  intro hn
  rw [List.getElem?_eq_none (by omega)] at h; cases h
theorem liveR_len (a : DfaA) (m : List Bool) : (liveR a m).length = a.next.length := by simp [liveR]
theorem liveR_keeps {a : DfaA} {m : List Bool} (hl : m.length = a.next.length) (i : Nat) (hi : getB m i = true) : getB (liveR a m) i = true :=
  (liveR_get m i).2 ⟨by rw [← hl]; exact getB_lt hi, .inl hi⟩
theorem liveR_more {a : DfaA} {m : List Bool} (hl : m.length = a.next.length) : ClosedA a m ∨ cntB m + 1 ≤ cntB (liveR a m) := by
  by_cases hc : ClosedA a m
  · exact .inl hc
  · refine .inr ?_
    have hex : ∃ (s : Nat) (z : Int), z ∈ a.next[s]?.getD [] ∧ 0 ≤ z ∧ getB m z.toNat = true ∧ getB m s = false := by
      apply Classical.byContradiction
      intro hn
      exact hc fun s z h1 h2 h3 => by
        cases h4 : getB m s with
        | true => rfl
        | false => exact absurd ⟨s, z, h1, h2, h3, h4⟩ hn
    obtain ⟨s, z, h1, h2, h3, h4⟩ := hex
    exact cnt_lt m _ (by rw [hl, liveR_len]) (liveR_keeps hl) ⟨s, h4, (liveR_get m s).2 ⟨next_lt h1, .inr ⟨z, h1, h2, h3⟩⟩⟩
theorem closedA_round {a : DfaA} {m : List Bool} (hl : m.length = a.next.length) (hc : ClosedA a m) : ClosedA a (liveR a m) := by
  intro s z h1 h2 h3
  have hz : getB m z.toNat = true := by
    rcases ((liveR_get m z.toNat).1 h3).2 with h4 | ⟨y, h4, h5, h6⟩
    · exact h4
    · exact hc _ y h4 h5 h6
  exact liveR_keeps hl s (hc s z h1 h2 hz)
theorem live_closed {a : DfaA} : ∀ (k : Nat) (m : List Bool), m.length = a.next.length → (ClosedA a m ∨ a.next.length ≤ k + cntB m) → ClosedA a (liveL a k m)
  | 0, m, hl, hc => by
    rcases hc with hc | hc
    · exact hc
    · intro s z h1 h2 h3
      exact cnt_max m (by omega) s (by rw [hl]; exact next_lt h1)
  | k + 1, m, hl, hc => by
    rw [liveL]
    refine live_closed k _ (liveR_len a m) ?_
    rcases hc with hc | hc
    · exact .inl (closedA_round hl hc)
    · rcases liveR_more hl with h1 | h1
      · exact .inl (closedA_round hl h1)
      · exact .inr (by omega)
theorem live_keeps {a : DfaA} : ∀ (k : Nat) (m : List Bool), m.length = a.next.length → ∀ i, getB m i = true → getB (liveL a k m) i = true
  | 0, m, hl, i, hi => hi
  | k + 1, m, hl, i, hi => live_keeps k _ (liveR_len a m) i (liveR_keeps hl i hi)
theorem live_len {a : DfaA} : ∀ (k : Nat) (m : List Bool), m.length = a.next.length → (liveL a k m).length = a.next.length
  | 0, m, hl => hl
  | k + 1, m, hl => live_len k _ (liveR_len a m)
theorem live_sound {a : DfaA} {Q : Nat → Prop} (hstep : ∀ (s : Nat) (z : Int), z ∈ a.next[s]?.getD [] → 0 ≤ z → Q z.toNat → Q s) : ∀ (k : Nat) (m : List Bool), (∀ i, getB m i = true → Q i) → ∀ i, getB (liveL a k m) i = true → Q i
  | 0, m, hs, i, hi => hs i hi
  | k + 1, m, hs, i, hi => live_sound hstep k _ (fun j hj => by
    rcases ((liveR_get m j).1 hj).2 with h1 | ⟨z, h1, h2, h3⟩
    · exact hs j h1
    · exact hstep j z h1 h2 (hs _ h3)) i hi
theorem ends_nat {a : DfaA} (s : Nat) : endsA a (s : Int) = getB a.acc s := by
  unfold endsA getB
  by_cases h : s < a.acc.length
  · rw [decide_eq_true (by omega), decide_eq_true (by omega), Int.toNat_natCast]; simp
  · rw [decide_eq_false (show ¬ ((s : Int) < a.acc.length) by omega), List.getElem?_eq_none (show a.acc.length ≤ s by omega)]; simp
theorem live_iff {w : Nat} {a : DfaA} (h : DfaOk w a) (hs : SurA w a) (s : Nat) : getB (liveA a) s = true ↔ LiveA a s := by
  have hcl := live_closed a.next.length a.acc h.acc (.inr (by omega))
  unfold liveA
  constructor
  · refine live_sound (fun s z h1 h2 h3 => ?_) _ _ (fun i hi => ⟨[], by unfold resA; rw [List.foldl_nil, ends_nat]; exact hi⟩) s
    obtain ⟨b, hb⟩ := h3
    have hlt := next_lt h1
    rw [List.getElem?_eq_getElem hlt, Option.getD_some] at h1
    obtain ⟨k, hk, e⟩ := List.getElem_of_mem h1
    have hw : k < w := by rw [← h.row _ (List.getElem_mem hlt)]; exact hk
    obtain ⟨c, hc, hck⟩ := hs k hw
    obtain ⟨k2, r, g1, g2, g3, g4⟩ := step_at h hlt hc
    rw [hck] at g1; cases g1
    rw [List.getElem?_eq_getElem hlt] at g3; cases g3
    rw [List.getElem?_eq_getElem hk, e] at g4
    have hst : stepA a (s : Int) c = z := (Option.some.inj g4).symm
    refine ⟨UInt8.ofNat c :: b, ?_⟩
    rw [res_cons, UInt8.toNat_ofNat_of_lt' hc, hst, show z = ((z.toNat : Nat) : Int) by omega]
    exact hb
  · rintro ⟨b, hb⟩
    induction b generalizing s with
    | nil =>
      unfold resA at hb
      rw [List.foldl_nil, ends_nat] at hb
      exact live_keeps _ _ h.acc s hb
    | cons c b ih =>
      rw [res_cons] at hb
      rcases step_to h (s : Int) c.toNat_lt with h1 | ⟨t, h1, h2⟩
      · rw [h1, res_dead b (by omega)] at hb; cases hb
      · rw [h1] at hb
        have hlt : s < a.next.length := by
          apply Classical.byContradiction
          intro hn
          unfold stepA at h1
          rw [if_pos (by omega)] at h1; omega
        obtain ⟨k, r, g1, g2, g3, g4⟩ := step_at h hlt c.toNat_lt
        rw [h1] at g4
        exact hcl s (t : Int) (by rw [g3]; exact List.mem_of_getElem? g4) (by omega) (by rw [Int.toNat_natCast]; exact ih t hb)
end Go.Proofs.YtinbmhbfcoiefaaGreatDoor
end
section
/- Groups of states that stand for the same: found by refining. No program in sight. -/
namespace Go.Proofs.YtinbmhbfcoiefaaGreatDoor
open Go Go.E
set_option linter.unusedVariables false
set_option maxRecDepth 10000
def getI' (g : List Int) (s : Nat) : Int := g[s]?.getD (-1)
def grpAt (g : List Int) (z : Int) : Int := if 0 ≤ z then getI' g z.toNat else z
def keyA (a : DfaA) (g : List Int) (s : Nat) : List Int := (getI' g s + 1) :: (a.next[s]?.getD []).map fun z => grpAt g z + 1
/-- A round: the states from i on. -/
def refA (a : DfaA) (g : List Int) : Nat → Nat → List (List Int) → List Int → List (List Int) × List Int
  | 0, _, seen, out => (seen, out)
  | k + 1, i, seen, out =>
    if getI' g i = -1 then refA a g k (i + 1) seen (out ++ [-1])
    else match seen.idxOf? (keyA a g i) with
      | some j => refA a g k (i + 1) seen (out ++ [(j : Int)])
      | none => refA a g k (i + 1) (seen ++ [keyA a g i]) (out ++ [(seen.length : Int)])
def grpL (a : DfaA) : Nat → Nat → List Int → List Int
  | 0, _, g => g
  | f + 1, m, g => if (refA a g a.next.length 0 [] []).1.length = m then (refA a g a.next.length 0 [] []).2 else grpL a f (refA a g a.next.length 0 [] []).1.length (refA a g a.next.length 0 [] []).2
def grp0 (a : DfaA) : List Int := (List.range a.next.length).map fun s => if getB (liveA a) s then (if getB a.acc s then 1 else 0) else -1
def grpA (a : DfaA) : List Int := grpL a (a.next.length + 1) 0 (grp0 a)
structure Numb (a : DfaA) (g : List Int) (i : Nat) (seen : List (List Int)) (out : List Int) : Prop where
  len : out.length = i
  nodup : seen.Nodup
  dead : ∀ s, s < i → getI' g s = -1 → getI' out s = -1
  at' : ∀ s, s < i → getI' g s ≠ -1 → ∃ k : Nat, getI' out s = (k : Int) ∧ seen[k]? = some (keyA a g s)
  from' : ∀ (k : Nat) (key : List Int), seen[k]? = some key → ∃ s, s < i ∧ getI' g s ≠ -1 ∧ key = keyA a g s ∧ getI' out s = (k : Int)
theorem getI_snoc {out : List Int} {v : Int} {s : Nat} : getI' (out ++ [v]) s = if s = out.length then v else getI' out s := by
  unfold getI'
  by_cases h : s < out.length
  · rw [List.getElem?_append_left h, if_neg (by omega)]
  · rw [List.getElem?_append_right (by omega)]
    by_cases e : s = out.length
    · rw [if_pos e, e, Nat.sub_self]; rfl
    · rw [if_neg e, List.getElem?_eq_none (by simp; omega), List.getElem?_eq_none (by omega)]
theorem ref_ok {a : DfaA} {g : List Int} : ∀ (k i : Nat) (seen : List (List Int)) (out : List Int), Numb a g i seen out → Numb a g (i + k) (refA a g k i seen out).1 (refA a g k i seen out).2
  | 0, i, seen, out, h => h
  | k + 1, i, seen, out, h => by
    rw [refA]
    have e : i + (k + 1) = i + 1 + k := by omega
    split
    · rename_i h0
      rw [e]
      refine ref_ok k (i + 1) seen _ ⟨by simp [h.len], h.nodup, fun s hs hd => ?_, fun s hs hd => ?_, fun j key hj => ?_⟩
      · rw [getI_snoc]; split
        · rfl
        · rename_i h1; exact h.dead s (by have := h.len; omega) hd
      · rw [getI_snoc]; split
        · rename_i h1; rw [h1, h.len] at hd; exact absurd h0 hd
        · rename_i h1; exact h.at' s (by have := h.len; omega) hd
      · obtain ⟨s, h1, h2, h3, h4⟩ := h.from' j key hj
        exact ⟨s, by omega, h2, h3, by rw [getI_snoc, if_neg (by have := h.len; omega)]; exact h4⟩
    · rename_i h0
      split
      · rename_i j0 hj0
        rw [e]
        obtain ⟨hlt, hk, _⟩ := List.findIdx?_eq_some_iff_getElem.1 hj0
        have hk : seen[j0] = keyA a g i := eq_of_beq hk
        refine ref_ok k (i + 1) seen _ ⟨by simp [h.len], h.nodup, fun s hs hd => ?_, fun s hs hd => ?_, fun j key hj => ?_⟩
        · rw [getI_snoc]; split
          · rename_i h1; rw [h1, h.len] at hd; exact absurd hd h0
          · rename_i h1; exact h.dead s (by have := h.len; omega) hd
        · rw [getI_snoc]; split
          · rename_i h1
            refine ⟨j0, rfl, ?_⟩
            rw [List.getElem?_eq_getElem hlt, hk, h1, h.len]
          · rename_i h1; exact h.at' s (by have := h.len; omega) hd
        · obtain ⟨s, h1, h2, h3, h4⟩ := h.from' j key hj
          exact ⟨s, by omega, h2, h3, by rw [getI_snoc, if_neg (by have := h.len; omega)]; exact h4⟩
      · rename_i hj0
        rw [e]
        have hnm : keyA a g i ∉ seen := fun hm => by
          have := List.findIdx?_eq_none_iff.1 hj0 _ hm
          simp at this
        refine ref_ok k (i + 1) _ _ ⟨by simp [h.len], List.nodup_append.2 ⟨h.nodup, by simp, fun x hx y hy e => by
          rw [List.mem_singleton] at hy; subst hy; subst e; exact hnm hx⟩, fun s hs hd => ?_, fun s hs hd => ?_, fun j key hj => ?_⟩
        · rw [getI_snoc]; split
          · rename_i h1; rw [h1, h.len] at hd; exact absurd hd h0
          · rename_i h1; exact h.dead s (by have := h.len; omega) hd
        · rw [getI_snoc]; split
          · rename_i h1
            refine ⟨seen.length, rfl, ?_⟩
            rw [List.getElem?_append_right (Nat.le_refl _), Nat.sub_self, h1, h.len]; rfl
          · rename_i h1
            obtain ⟨k1, h2, h3⟩ := h.at' s (by have := h.len; omega) hd
            exact ⟨k1, h2, by rw [List.getElem?_append_left (List.getElem?_eq_some_iff.1 h3).1]; exact h3⟩
        · by_cases hjl : j < seen.length
          · rw [List.getElem?_append_left hjl] at hj
            obtain ⟨s, h1, h2, h3, h4⟩ := h.from' j key hj
            exact ⟨s, by omega, h2, h3, by rw [getI_snoc, if_neg (by have := h.len; omega)]; exact h4⟩
          · have hje : j = seen.length := by have := (List.getElem?_eq_some_iff.1 hj).1; simp at this; omega
            subst hje
            rw [List.getElem?_append_right (Nat.le_refl _), Nat.sub_self] at hj
            have hj : keyA a g i = key := by simpa using hj
            exact ⟨i, by omega, h0, hj.symm, by rw [getI_snoc, if_pos h.len.symm]⟩
theorem numb0 (a : DfaA) (g : List Int) : Numb a g 0 [] [] := ⟨rfl, List.nodup_nil, fun s h => by omega, fun s h => by omega, fun k key h => by simp at h⟩
theorem ref_all (a : DfaA) (g : List Int) : Numb a g a.next.length (refA a g a.next.length 0 [] []).1 (refA a g a.next.length 0 [] []).2 := by
  have := ref_ok a.next.length 0 [] [] (numb0 a g)
  rwa [Nat.zero_add] at this
/-- What holds of groups, round by round. -/
structure GrpOk (a : DfaA) (g : List Int) : Prop where
  len : g.length = a.next.length
  dead : ∀ s, s < a.next.length → (getI' g s = -1 ↔ ¬ LiveA a s)
  low : ∀ s, s < a.next.length → -1 ≤ getI' g s
  same : ∀ s t, s < a.next.length → t < a.next.length → LiveA a s → (∀ b, resA a (s : Int) b = resA a (t : Int) b) → getI' g s = getI' g t
  acc : ∀ s t, s < a.next.length → t < a.next.length → LiveA a s → getI' g s = getI' g t → getB a.acc s = getB a.acc t
/-- The groups' numbers are those below m. -/
structure FullG (a : DfaA) (m : Nat) (g : List Int) : Prop where
  lt : ∀ s, s < a.next.length → getI' g s < (m : Int)
  all : ∀ k, k < m → ∃ s, s < a.next.length ∧ LiveA a s ∧ getI' g s = (k : Int)
theorem live_like {a : DfaA} {s t : Nat} (h : LiveA a s) (hr : ∀ b, resA a (s : Int) b = resA a (t : Int) b) : LiveA a t := by
  obtain ⟨b, hb⟩ := h
  exact ⟨b, by rw [← hr]; exact hb⟩
theorem not_live_res {a : DfaA} {s : Nat} (h : ¬ LiveA a s) (b : List UInt8) : resA a (s : Int) b = false := by
  cases hb : resA a (s : Int) b with
  | false => rfl
  | true => exact absurd ⟨b, hb⟩ h
/-- The groups of what two states that stand for the same lead to. -/
theorem grpAt_same {w : Nat} {a : DfaA} (h : DfaOk w a) {g : List Int} (hg : GrpOk a g) {y z : Int} (hy : y = -1 ∨ (0 ≤ y ∧ y < a.next.length)) (hz : z = -1 ∨ (0 ≤ z ∧ z < a.next.length)) (hr : ∀ b, resA a y b = resA a z b) : grpAt g y = grpAt g z := by
  have key : ∀ {y z : Int}, y = -1 → (0 ≤ z ∧ z < a.next.length) → (∀ b, resA a y b = resA a z b) → grpAt g y = grpAt g z := by
    intro y z h1 h2 hr
    unfold grpAt
    rw [if_neg (by omega), if_pos h2.1, h1]
    refine ((hg.dead z.toNat (by omega)).2 fun hl => ?_).symm
    obtain ⟨b, hb⟩ := hl
    rw [show ((z.toNat : Nat) : Int) = z by omega, ← hr, res_dead b (by omega)] at hb; cases hb
  rcases hy with hy | hy
  · rcases hz with hz | hz
    · rw [hy, hz]
    · exact key hy hz hr
  · rcases hz with hz | hz
    · exact (key hz hy (fun b => (hr b).symm)).symm
    · unfold grpAt
      rw [if_pos hy.1, if_pos hz.1]
      have e1 : ((y.toNat : Nat) : Int) = y := by omega
      have e2 : ((z.toNat : Nat) : Int) = z := by omega
      by_cases hl : LiveA a y.toNat
      · exact hg.same _ _ (by omega) (by omega) hl (fun b => by rw [e1, e2]; exact hr b)
      · rw [(hg.dead y.toNat (by omega)).2 hl]
        refine ((hg.dead z.toNat (by omega)).2 fun h2 => hl ?_).symm
        exact live_like h2 (fun b => by rw [e1, e2]; exact (hr b).symm)
theorem key_same {w : Nat} {a : DfaA} (h : DfaOk w a) (hs : SurA w a) {g : List Int} (hg : GrpOk a g) {s t : Nat} (h1 : s < a.next.length) (h2 : t < a.next.length) (hl : LiveA a s) (hr : ∀ b, resA a (s : Int) b = resA a (t : Int) b) : keyA a g s = keyA a g t := by
  unfold keyA
  rw [hg.same s t h1 h2 hl hr]
  congr 1
  rw [List.getElem?_eq_getElem h1, List.getElem?_eq_getElem h2, Option.getD_some, Option.getD_some]
  apply List.ext_getElem?
  intro k
  rw [List.getElem?_map, List.getElem?_map]
  by_cases hk : k < w
  · obtain ⟨c, hc, hck⟩ := hs k hk
    obtain ⟨k1, r1, p1, p2, p3, p4⟩ := step_at h h1 hc
    obtain ⟨k2, r2, q1, q2, q3, q4⟩ := step_at h h2 hc
    rw [hck] at p1 q1
    cases p1; cases q1
    rw [List.getElem?_eq_getElem h1] at p3
    rw [List.getElem?_eq_getElem h2] at q3
    cases p3; cases q3
    rw [p4, q4]
    simp only [Option.map_some]
    congr 2
    have t1 := h.to _ (List.getElem_mem h1) _ (List.mem_of_getElem? p4)
    have t2 := h.to _ (List.getElem_mem h2) _ (List.mem_of_getElem? q4)
    refine grpAt_same h hg t1 t2 fun b => ?_
    have := hr (UInt8.ofNat c :: b)
    rw [res_cons, res_cons, UInt8.toNat_ofNat_of_lt' hc] at this
    exact this
  · rw [List.getElem?_eq_none (by rw [h.row _ (List.getElem_mem h1)]; omega), List.getElem?_eq_none (by rw [h.row _ (List.getElem_mem h2)]; omega)]
theorem key_head {a : DfaA} {g : List Int} {s t : Nat} (h : keyA a g s = keyA a g t) : getI' g s = getI' g t := by
  unfold keyA at h
  have := (List.cons.inj h).1
  omega
/-- A round keeps what holds. -/
theorem GrpOk.ref {w : Nat} {a : DfaA} (h : DfaOk w a) (hs : SurA w a) {g : List Int} (hg : GrpOk a g) {seen : List (List Int)} {out : List Int} (hn : Numb a g a.next.length seen out) :
    GrpOk a out ∧ FullG a seen.length out ∧ ∀ s t, s < a.next.length → t < a.next.length → LiveA a s → LiveA a t → (getI' out s = getI' out t ↔ keyA a g s = keyA a g t) := by
  have hiff : ∀ s t, s < a.next.length → t < a.next.length → LiveA a s → LiveA a t → (getI' out s = getI' out t ↔ keyA a g s = keyA a g t) := by
    intro s t h1 h2 l1 l2
    obtain ⟨k1, p1, p2⟩ := hn.at' s h1 (fun e => ((hg.dead s h1).1 e) l1)
    obtain ⟨k2, q1, q2⟩ := hn.at' t h2 (fun e => ((hg.dead t h2).1 e) l2)
    rw [p1, q1]
    constructor
    · intro e
      have : k1 = k2 := by omega
      subst this
      rw [p2] at q2; exact Option.some.inj q2
    · intro e
      rw [e] at p2
      have := (List.getElem?_inj (List.getElem?_eq_some_iff.1 p2).1 hn.nodup).1 (p2.trans q2.symm)
      omega
  have hdead : ∀ s, s < a.next.length → (getI' out s = -1 ↔ ¬ LiveA a s) := fun s h1 => by
    constructor
    · intro e hl
      obtain ⟨k1, p1, _⟩ := hn.at' s h1 (fun e => ((hg.dead s h1).1 e) hl)
      omega
    · intro hl; exact hn.dead s h1 ((hg.dead s h1).2 hl)
  have hlow : ∀ s, s < a.next.length → -1 ≤ getI' out s := fun s h1 => by
    by_cases hl : LiveA a s
    · obtain ⟨k1, p1, _⟩ := hn.at' s h1 (fun e => ((hg.dead s h1).1 e) hl)
      omega
    · have := (hdead s h1).2 hl; omega
  refine ⟨⟨hn.len, hdead, hlow, fun s t h1 h2 hl hr => (hiff s t h1 h2 hl (live_like hl hr)).2 (key_same h hs hg h1 h2 hl hr), fun s t h1 h2 hl e => ?_⟩, ⟨fun s h1 => ?_, fun k hk => ?_⟩, hiff⟩
  · have hl2 : LiveA a t := Classical.byContradiction fun hn2 => by
      have h3 := (hdead t h2).2 hn2
      exact ((hdead s h1).1 (e.trans h3)) hl
    exact hg.acc s t h1 h2 hl (key_head ((hiff s t h1 h2 hl hl2).1 e))
  · by_cases hl : LiveA a s
    · obtain ⟨k1, p1, p2⟩ := hn.at' s h1 (fun e => ((hg.dead s h1).1 e) hl)
      have := (List.getElem?_eq_some_iff.1 p2).1
      omega
    · have := (hdead s h1).2 hl; omega
  · obtain ⟨s, h1, h2, _, h4⟩ := hn.from' k _ (List.getElem?_eq_getElem hk)
    exact ⟨s, h1, Classical.byContradiction fun hn2 => h2 ((hg.dead s h1).2 hn2), h4⟩
theorem surj_nodup {α : Type} [DecidableEq α] : ∀ {U H : List α}, U.Nodup → (∀ x ∈ U, x ∈ H) → H.length ≤ U.length → H.Nodup
  | U, [], _, _, _ => List.nodup_nil
  | U, x :: H, hu, hm, hl => by
    have hx : x ∉ H := fun hx => by
      have : U.length ≤ H.length := nodup_le hu fun y hy => by
        rcases List.mem_cons.1 (hm y hy) with rfl | h
        · exact hx
        · exact h
      simp at hl; omega
    have he : ∀ y ∈ U.erase x, y ∈ H := fun y hy => by
      have hne : y ≠ x := fun e => by subst e; exact (List.Nodup.not_mem_erase hu) hy
      rcases List.mem_cons.1 (hm y (List.mem_of_mem_erase hy)) with h | h
      · exact absurd h hne
      · exact h
    refine List.nodup_cons.2 ⟨hx, surj_nodup (hu.erase x) he ?_⟩
    have := List.length_erase_le (a := x) (l := U)
    by_cases hxu : x ∈ U
    · rw [List.length_erase_of_mem hxu]; simp at hl; omega
    · rw [List.erase_of_not_mem hxu]; simp at hl; omega
/-- Where no more groups come, they are the same as before. -/
theorem stable_round {a : DfaA} {g : List Int} (hg : GrpOk a g) {m : Nat} (hf : FullG a m g) {seen : List (List Int)} {out : List Int} (hn : Numb a g a.next.length seen out) :
    m ≤ seen.length ∧ (seen.length = m → ∀ s t, s < a.next.length → t < a.next.length → LiveA a s → LiveA a t → getI' g s = getI' g t → keyA a g s = keyA a g t) := by
  have hU : ((List.range m).map fun k : Nat => (k : Int) + 1).Nodup := by
    refine List.pairwise_map.2 (List.nodup_range.imp fun {x y} h e => h (by omega))
  have hmem : ∀ x ∈ (List.range m).map fun k : Nat => (k : Int) + 1, x ∈ seen.map fun l => l.headD 0 := fun x hx => by
    obtain ⟨k, hk, rfl⟩ := List.mem_map.1 hx
    obtain ⟨s, h1, hl, h2⟩ := hf.all k (List.mem_range.1 hk)
    obtain ⟨j, _, h4⟩ := hn.at' s h1 (fun e => ((hg.dead s h1).1 e) hl)
    exact List.mem_map.2 ⟨keyA a g s, List.mem_of_getElem? h4, by unfold keyA; rw [h2]; rfl⟩
  have hle := nodup_le hU hmem
  rw [List.length_map, List.length_map, List.length_range] at hle
  refine ⟨hle, fun e s t h1 h2 l1 l2 hst => ?_⟩
  have hH := surj_nodup hU hmem (by rw [List.length_map, List.length_map, List.length_range]; omega)
  obtain ⟨j1, _, p2⟩ := hn.at' s h1 (fun e => ((hg.dead s h1).1 e) l1)
  obtain ⟨j2, _, q2⟩ := hn.at' t h2 (fun e => ((hg.dead t h2).1 e) l2)
  have hj : j1 = j2 := by
    refine (List.getElem?_inj (by rw [List.length_map]; exact (List.getElem?_eq_some_iff.1 p2).1) hH).1 ?_
    rw [List.getElem?_map, List.getElem?_map, p2, q2]
    unfold keyA; rw [hst]; rfl
  subst hj
  rw [p2] at q2; exact Option.some.inj q2
/-- Groups that tell apart what stands for something else, and nothing else. -/
structure GrpFin (a : DfaA) (g : List Int) : Prop where
  ok : GrpOk a g
  iff : ∀ s t, s < a.next.length → t < a.next.length → LiveA a s → LiveA a t → (getI' g s = getI' g t ↔ ∀ b, resA a (s : Int) b = resA a (t : Int) b)
theorem grpAt_res {w : Nat} {a : DfaA} (h : DfaOk w a) {g : List Int} (hg : GrpOk a g)
    (hst : ∀ s t, s < a.next.length → t < a.next.length → LiveA a s → LiveA a t → getI' g s = getI' g t → ∀ c, c < 256 → grpAt g (stepA a (s : Int) c) = grpAt g (stepA a (t : Int) c)) :
    ∀ (b : List UInt8) (s t : Nat), s < a.next.length → t < a.next.length → LiveA a s → LiveA a t → getI' g s = getI' g t → resA a (s : Int) b = resA a (t : Int) b
  | [], s, t, h1, h2, l1, l2, e => by unfold resA; rw [List.foldl_nil, List.foldl_nil, ends_nat, ends_nat]; exact hg.acc s t h1 h2 l1 e
  | c :: b, s, t, h1, h2, l1, l2, e => by
    rw [res_cons, res_cons]
    have hgr := hst s t h1 h2 l1 l2 e c.toNat c.toNat_lt
    have dead : ∀ {y : Int}, (y = -1 ∨ ∃ n : Nat, y = (n : Int) ∧ n < a.next.length) → grpAt g y = -1 → resA a y b = false := by
      intro y hy hd
      rcases hy with hy | ⟨n, rfl, hn⟩
      · exact res_dead b (by omega)
      · unfold grpAt at hd
        rw [if_pos (by omega), Int.toNat_natCast] at hd
        exact not_live_res ((hg.dead n hn).1 hd) b
    have t1 := step_to h (s : Int) c.toNat_lt
    have t2 := step_to h (t : Int) c.toNat_lt
    generalize stepA a (s : Int) c.toNat = y at *
    generalize stepA a (t : Int) c.toNat = z at *
    by_cases hd : grpAt g y = -1
    · rw [dead t1 hd, dead t2 (hgr.symm.trans hd)]
    · have lv : ∀ {y : Int}, (y = -1 ∨ ∃ n : Nat, y = (n : Int) ∧ n < a.next.length) → grpAt g y ≠ -1 → ∃ n : Nat, y = (n : Int) ∧ n < a.next.length ∧ LiveA a n ∧ grpAt g y = getI' g n := by
        intro y hy hd
        rcases hy with hy | ⟨n, rfl, hn⟩
        · exact absurd (by unfold grpAt; rw [if_neg (by omega)]; exact hy) hd
        · have e : grpAt g (n : Int) = getI' g n := by unfold grpAt; rw [if_pos (by omega), Int.toNat_natCast]
          exact ⟨n, rfl, hn, Classical.byContradiction fun hl => hd (e.trans ((hg.dead n hn).2 hl)), e⟩
      obtain ⟨n1, rfl, p1, p2, p3⟩ := lv t1 hd
      obtain ⟨n2, rfl, q1, q2, q3⟩ := lv t2 (fun e => hd (hgr.trans e))
      exact grpAt_res h hg hst b n1 n2 p1 q1 p2 q2 (by rw [← p3, ← q3]; exact hgr)
theorem key_step {w : Nat} {a : DfaA} (h : DfaOk w a) {g : List Int} {s t : Nat} (h1 : s < a.next.length) (h2 : t < a.next.length) (e : keyA a g s = keyA a g t) {c : Nat} (hc : c < 256) : grpAt g (stepA a (s : Int) c) = grpAt g (stepA a (t : Int) c) := by
  obtain ⟨k1, r1, p1, p2, p3, p4⟩ := step_at h h1 hc
  obtain ⟨k2, r2, q1, q2, q3, q4⟩ := step_at h h2 hc
  rw [p1] at q1; cases q1
  unfold keyA at e
  rw [p3, q3] at e
  have e2 := congrArg (fun l : List Int => l[k1]?) (List.cons.inj e).2
  simp only [Option.getD_some] at e2
  rw [List.getElem?_map, List.getElem?_map, p4, q4] at e2
  simp only [Option.map_some, Option.some.injEq] at e2
  omega
theorem grpL_fin {w : Nat} {a : DfaA} (h : DfaOk w a) (hs : SurA w a) : ∀ (f m : Nat) (g : List Int), GrpOk a g → (m = 0 ∨ FullG a m g) → a.next.length < f + m → GrpFin a (grpL a f m g)
  | 0, m, g, hg, hm, hf => by
    rcases hm with hm | hm
    · omega
    · -- more groups than states: none
      exfalso
      have hU : (List.range m).Nodup := List.nodup_range
      have : m ≤ a.next.length := by
        have h1 : ∀ x ∈ (List.range m).map (fun k : Nat => (k : Int)), x ∈ g := fun x hx => by
          obtain ⟨k, hk, rfl⟩ := List.mem_map.1 hx
          obtain ⟨s, h1, _, h2⟩ := hm.all k (List.mem_range.1 hk)
          unfold getI' at h2
          rw [List.getElem?_eq_getElem (by rw [hg.len]; exact h1), Option.getD_some] at h2
          exact h2 ▸ List.getElem_mem _
        have h3 : ((List.range m).map (fun k : Nat => (k : Int))).Nodup := List.pairwise_map.2 (List.nodup_range.imp fun {x y} h e => h (by omega))
        have := nodup_le h3 h1
        rw [List.length_map, List.length_range, hg.len] at this; exact this
      omega
  | f + 1, m, g, hg, hm, hf => by
    rw [grpL]
    have hn := ref_all a g
    generalize refA a g a.next.length 0 [] [] = r at *
    obtain ⟨o1, o2, o3⟩ := hg.ref h hs hn
    split
    · rename_i he
      -- no more groups
      have hkey : ∀ s t, s < a.next.length → t < a.next.length → LiveA a s → LiveA a t → getI' g s = getI' g t → keyA a g s = keyA a g t := by
        rcases hm with hm | hm
        · intro s t h1 h2 l1 l2 _
          obtain ⟨k, _, p2⟩ := hn.at' s h1 (fun e => ((hg.dead s h1).1 e) l1)
          have := (List.getElem?_eq_some_iff.1 p2).1
          omega
        · exact (stable_round hg hm hn).2 he
      have hgg : ∀ s t, s < a.next.length → t < a.next.length → LiveA a s → LiveA a t → (getI' r.2 s = getI' r.2 t ↔ getI' g s = getI' g t) := fun s t h1 h2 l1 l2 =>
        (o3 s t h1 h2 l1 l2).trans ⟨key_head, hkey s t h1 h2 l1 l2⟩
      have hat : ∀ {y z : Int}, (y = -1 ∨ ∃ n : Nat, y = (n : Int) ∧ n < a.next.length) → (z = -1 ∨ ∃ n : Nat, z = (n : Int) ∧ n < a.next.length) → grpAt g y = grpAt g z → grpAt r.2 y = grpAt r.2 z := by
        intro y z hy hz e
        have val : ∀ (g : List Int) (n : Nat), grpAt g (n : Int) = getI' g n := fun g n => by unfold grpAt; rw [if_pos (by omega), Int.toNat_natCast]
        have neg : ∀ (g : List Int), grpAt g (-1) = -1 := fun g => by unfold grpAt; rw [if_neg (by omega)]
        rcases hy with rfl | ⟨n, rfl, hn1⟩
        · rcases hz with rfl | ⟨k, rfl, hk1⟩
          · rfl
          · rw [neg, val] at e ⊢
            exact ((o1.dead k hk1).2 ((hg.dead k hk1).1 e.symm)).symm
        · rcases hz with rfl | ⟨k, rfl, hk1⟩
          · rw [neg, val] at e ⊢
            exact (o1.dead n hn1).2 ((hg.dead n hn1).1 e)
          · rw [val, val] at e ⊢
            by_cases l1 : LiveA a n
            · have l2 : LiveA a k := Classical.byContradiction fun hh => ((hg.dead n hn1).1 (e.trans ((hg.dead k hk1).2 hh))) l1
              exact (hgg n k hn1 hk1 l1 l2).2 e
            · have l2 : ¬ LiveA a k := (hg.dead k hk1).1 (e.symm.trans ((hg.dead n hn1).2 l1))
              rw [(o1.dead n hn1).2 l1, (o1.dead k hk1).2 l2]
      refine ⟨o1, fun s t h1 h2 l1 l2 => ⟨fun e b => ?_, fun hr => o1.same s t h1 h2 l1 hr⟩⟩
      refine grpAt_res h o1 (fun s t h1 h2 l1 l2 e c hc => ?_) b s t h1 h2 l1 l2 e
      exact hat (step_to h _ hc) (step_to h _ hc) (key_step h h1 h2 ((o3 s t h1 h2 l1 l2).1 e) hc)
    · rename_i he
      refine grpL_fin h hs f r.1.length r.2 o1 (.inr o2) ?_
      rcases hm with hm | hm
      · omega
      · have := (stable_round hg hm hn).1; omega
theorem grp0_ok {w : Nat} {a : DfaA} (h : DfaOk w a) (hs : SurA w a) : GrpOk a (grp0 a) := by
  have hv : ∀ s, s < a.next.length → getI' (grp0 a) s = if getB (liveA a) s then (if getB a.acc s then 1 else 0) else -1 := fun s h1 => by
    unfold getI' grp0
    rw [List.getElem?_map, List.getElem?_range h1]; rfl
  have hacc : ∀ s t, s < a.next.length → t < a.next.length → LiveA a s → LiveA a t → (getI' (grp0 a) s = getI' (grp0 a) t ↔ getB a.acc s = getB a.acc t) := fun s t h1 h2 l1 l2 => by
    rw [hv s h1, hv t h2, (live_iff h hs s).2 l1, (live_iff h hs t).2 l2, if_pos rfl, if_pos rfl]
    cases getB a.acc s <;> cases getB a.acc t <;> simp
  have hdead : ∀ s, s < a.next.length → (getI' (grp0 a) s = -1 ↔ ¬ LiveA a s) := fun s h1 => by
    rw [hv s h1, ← live_iff h hs s]
    cases getB (liveA a) s with
    | false => simp
    | true => simp; split <;> omega
  refine ⟨by simp [grp0], hdead, fun s h1 => by rw [hv s h1]; split; split <;> omega; omega, fun s t h1 h2 hl hr => ?_, fun s t h1 h2 hl e => ?_⟩
  · refine (hacc s t h1 h2 hl (live_like hl hr)).2 ?_
    have := hr []
    unfold resA at this
    rwa [List.foldl_nil, List.foldl_nil, ends_nat, ends_nat] at this
  · have l2 : LiveA a t := Classical.byContradiction fun hh => ((hdead s h1).1 (e.trans ((hdead t h2).2 hh))) hl
    exact (hacc s t h1 h2 hl l2).1 e
theorem grp_fin {w : Nat} {a : DfaA} (h : DfaOk w a) (hs : SurA w a) : GrpFin a (grpA a) := grpL_fin h hs _ 0 _ (grp0_ok h hs) (.inl rfl) (by omega)
end Go.Proofs.YtinbmhbfcoiefaaGreatDoor
end
section
/- One automaton alone: what is numbered in the order in which it is met, and tells all states apart, is told by what it stands for. No program in sight. -/
namespace Go.Proofs.YtinbmhbfcoiefaaGreatDoor
open Go Go.E
set_option linter.unusedVariables false
set_option maxRecDepth 10000
/-- Ahead of: first by state, then by byte. -/
def Bef (s c s2 c2 : Nat) : Prop := s < s2 ∨ (s = s2 ∧ c < c2)
structure Canon (w : Nat) (a : DfaA) : Prop where
  ok : DfaOk w a
  sur : SurA w a
  pos : 0 < a.next.length
  live : ∀ s, s < a.next.length → LiveA a s
  diff : ∀ s t, s < a.next.length → t < a.next.length → (∀ b, resA a (s : Int) b = resA a (t : Int) b) → s = t
  met : ∀ t, 0 < t → t < a.next.length → ∃ s c, s < t ∧ c < 256 ∧ stepA a (s : Int) c = (t : Int)
  order : ∀ (s c t : Nat), s < a.next.length → c < 256 → stepA a (s : Int) c = (t : Int) → ∀ u, 0 < u → u < t → ∃ s2 c2, s2 < a.next.length ∧ c2 < 256 ∧ Bef s2 c2 s c ∧ stepA a (s2 : Int) c2 = (u : Int)
  like : ∀ c d k, c < 256 → d < 256 → a.cls[c]? = some k → (a.cls[d]? = some k ↔ ∀ s : Nat, s < a.next.length → stepA a (s : Int) c = stepA a (s : Int) d)
  first : ∀ c k, c < 256 → a.cls[c]? = some k → ∀ j, j < k → ∃ d, d < c ∧ a.cls[d]? = some j
theorem bef_trans {s c s2 c2 s3 c3 : Nat} (h : Bef s c s2 c2) (h2 : Bef s2 c2 s3 c3) : Bef s c s3 c3 := by unfold Bef at *; omega
/-- The first pair that leads to a state. -/
theorem first_pair {n : Nat} {f : Nat → Nat → Int} {t : Int} (h : ∃ s c, s < n ∧ c < 256 ∧ f s c = t) : ∃ s c, s < n ∧ c < 256 ∧ f s c = t ∧ ∀ s2 c2, s2 < n → c2 < 256 → Bef s2 c2 s c → f s2 c2 ≠ t := by
  -- by the number 256 s + c
  have key : ∀ m : Nat, ∀ s c, s * 256 + c = m → s < n → c < 256 → f s c = t → ∃ s c, s < n ∧ c < 256 ∧ f s c = t ∧ ∀ s2 c2, s2 < n → c2 < 256 → Bef s2 c2 s c → f s2 c2 ≠ t := by
    intro m
    induction m using Nat.strongRecOn with
    | _ m ih =>
      intro s c hm hs hc hf
      by_cases hex : ∃ s2 c2, s2 < n ∧ c2 < 256 ∧ Bef s2 c2 s c ∧ f s2 c2 = t
      · obtain ⟨s2, c2, h1, h2, h3, h4⟩ := hex
        refine ih (s2 * 256 + c2) ?_ s2 c2 rfl h1 h2 h4
        unfold Bef at h3; omega
      · exact ⟨s, c, hs, hc, hf, fun s2 c2 h1 h2 h3 h4 => hex ⟨s2, c2, h1, h2, h3, h4⟩⟩
  obtain ⟨s, c, h1, h2, h3⟩ := h
  exact key _ s c rfl h1 h2 h3
theorem step_res {a : DfaA} (s : Int) {c : Nat} (hc : c < 256) (b : List UInt8) : resA a (stepA a s c) b = resA a s (UInt8.ofNat c :: b) := by rw [res_cons, UInt8.toNat_ofNat_of_lt' hc]
/-- Where a state stands for something, it is one. -/
theorem live_to {w : Nat} {a : DfaA} (h : DfaOk w a) {s : Int} {c : Nat} (hc : c < 256) {b : List UInt8} (hb : resA a (stepA a s c) b = true) : ∃ t : Nat, stepA a s c = (t : Int) ∧ t < a.next.length := by
  rcases step_to h s hc with h1 | h1
  · rw [h1, res_dead b (by omega)] at hb; cases hb
  · exact h1
/-- The states with one number stand for the same. -/
theorem canon_states {w v : Nat} {a b : DfaA} (ha : Canon w a) (hb : Canon v b) (h0 : ∀ x, resA a 0 x = resA b 0 x) : ∀ i : Nat, i < a.next.length → i < b.next.length ∧ ∀ x, resA a (i : Int) x = resA b (i : Int) x := by
  intro i
  induction i using Nat.strongRecOn with
  | _ i ih =>
    intro hi
    by_cases hz : i = 0
    · subst hz; exact ⟨hb.pos, h0⟩
    · obtain ⟨s0, c0, hs0, hc0, hf0⟩ := ha.met i (by omega) hi
      obtain ⟨s, c, hs, hc, hf, hmin⟩ := first_pair (n := a.next.length) (f := fun s c => stepA a (s : Int) c) (t := (i : Int)) ⟨s0, c0, by omega, hc0, hf0⟩
      have hsi : s < i := by
        apply Classical.byContradiction
        intro hn
        exact hmin s0 c0 (by omega) hc0 (.inl (by omega)) hf0
      obtain ⟨hsb, hsr⟩ := ih s hsi hs
      have hres : ∀ x, resA b (stepA b (s : Int) c) x = resA a (i : Int) x := fun x => by rw [step_res _ hc, ← hsr, ← step_res _ hc, hf]
      obtain ⟨x0, hx0⟩ := ha.live i hi
      obtain ⟨j, hj, hjn⟩ := live_to hb.ok hc (by rw [hres]; exact hx0)
      rw [hj] at hres
      have hij : j = i := by
        rcases Nat.lt_trichotomy j i with h | h | h
        · obtain ⟨_, hjr⟩ := ih j h (by omega)
          exact ha.diff j i (by omega) hi fun x => by rw [hjr, hres]
        · exact h
        · -- i is met ahead of j in b
          exfalso
          obtain ⟨s2, c2, h2, hc2, hbef, hf2⟩ := hb.order s c j hsb hc hj i (by omega) h
          have hs2 : s2 ≤ s := by unfold Bef at hbef; omega
          obtain ⟨_, hr2⟩ := ih s2 (by omega) (by omega)
          have hres2 : ∀ x, resA a (stepA a (s2 : Int) c2) x = resA b (i : Int) x := fun x => by rw [step_res _ hc2, hr2, ← step_res _ hc2, hf2]
          have hib : i < b.next.length := by omega
          obtain ⟨x1, hx1⟩ := hb.live i hib
          obtain ⟨t, ht, htn⟩ := live_to ha.ok hc2 (by rw [hres2]; exact hx1)
          rw [ht] at hres2
          rcases Nat.lt_trichotomy t i with h3 | h3 | h3
          · obtain ⟨htb, htr⟩ := ih t h3 htn
            have := hb.diff t i htb hib fun x => by rw [← htr, hres2]
            omega
          · subst h3
            exact hmin s2 c2 (by omega) hc2 hbef ht
          · obtain ⟨s3, c3, h4, hc3, hb3, hf3⟩ := ha.order s2 c2 t (by omega) hc2 ht i (by omega) h3
            exact hmin s3 c3 h4 hc3 (bef_trans hb3 hbef) hf3
      subst hij
      exact ⟨hjn, fun x => (hres x).symm⟩
theorem canon_steps {w v : Nat} {a b : DfaA} (ha : Canon w a) (hb : Canon v b) (h0 : ∀ x, resA a 0 x = resA b 0 x) {s c : Nat} (hs : s < a.next.length) (hc : c < 256) : stepA a (s : Int) c = stepA b (s : Int) c := by
  have hA := canon_states ha hb h0
  have hB := canon_states hb ha (fun x => (h0 x).symm)
  obtain ⟨hsb, hsr⟩ := hA s hs
  have hres : ∀ x, resA a (stepA a (s : Int) c) x = resA b (stepA b (s : Int) c) x := fun x => by rw [step_res _ hc, step_res _ hc, hsr]
  rcases step_to ha.ok (s : Int) hc with h1 | ⟨t, h1, h2⟩
  · rcases step_to hb.ok (s : Int) hc with h3 | ⟨u, h3, h4⟩
    · rw [h1, h3]
    · obtain ⟨x, hx⟩ := hb.live u h4
      rw [h1, h3] at hres
      rw [← hres, res_dead x (by omega)] at hx; cases hx
  · obtain ⟨x, hx⟩ := ha.live t h2
    rw [h1] at hres
    obtain ⟨u, h3, h4⟩ := live_to hb.ok hc (by rw [← hres]; exact hx)
    rw [h3] at hres
    obtain ⟨h5, h6⟩ := hA t h2
    rw [h1, h3, hb.diff t u h5 h4 fun x => by rw [← h6, hres]]
/-- ONE AUTOMATON ALONE. -/
theorem canon_unique {w v : Nat} {a b : DfaA} (ha : Canon w a) (hb : Canon v b) (h0 : ∀ x, resA a 0 x = resA b 0 x) : a = b := by
  have hA := canon_states ha hb h0
  have hB := canon_states hb ha (fun x => (h0 x).symm)
  have hlen : a.next.length = b.next.length := by
    have h1 : a.next.length ≤ b.next.length := by have := (hA (a.next.length - 1) (by have := ha.pos; omega)).1; have := ha.pos; omega
    have h2 : b.next.length ≤ a.next.length := by have := (hB (b.next.length - 1) (by have := hb.pos; omega)).1; have := hb.pos; omega
    omega
  have hst : ∀ s c, s < a.next.length → c < 256 → stepA a (s : Int) c = stepA b (s : Int) c := fun s c hs hc => canon_steps ha hb h0 hs hc
  have hcls : ∀ c, c < 256 → a.cls[c]? = b.cls[c]? := by
    intro c
    induction c using Nat.strongRecOn with
    | _ c ih =>
      intro hc
      obtain ⟨k, e1⟩ : ∃ k, a.cls[c]? = some k := ⟨_, List.getElem?_eq_getElem (by rw [ha.ok.cls]; exact hc)⟩
      obtain ⟨m, e2⟩ : ∃ m, b.cls[c]? = some m := ⟨_, List.getElem?_eq_getElem (by rw [hb.ok.cls]; exact hc)⟩
      rw [e1, e2]
      congr 1
      have same : ∀ d, d < c → (a.cls[d]? = some k ↔ b.cls[d]? = some m) := fun d hd => by
        rw [ha.like c d k hc (by omega) e1, hb.like c d m hc (by omega) e2]
        constructor
        · intro h s hs; rw [← hst s c (by omega) hc, ← hst s d (by omega) (by omega)]; exact h s (by omega)
        · intro h s hs; rw [hst s c hs hc, hst s d hs (by omega)]; exact h s (by omega)
      rcases Nat.lt_trichotomy k m with h | h | h
      · obtain ⟨d, hd, hdk⟩ := hb.first c m hc e2 k h
        have : a.cls[d]? = some k := by rw [ih d hd (by omega)]; exact hdk
        have := (same d hd).1 this
        rw [hdk] at this
        exact Option.some.inj this
      · exact h
      · obtain ⟨d, hd, hdk⟩ := ha.first c k hc e1 m h
        have : b.cls[d]? = some m := by rw [← ih d hd (by omega)]; exact hdk
        have := (same d hd).2 this
        rw [hdk] at this
        exact (Option.some.inj this).symm
  have hcl : a.cls = b.cls := by
    apply List.ext_getElem?
    intro c
    by_cases hc : c < 256
    · exact hcls c hc
    · rw [List.getElem?_eq_none (by rw [ha.ok.cls]; omega), List.getElem?_eq_none (by rw [hb.ok.cls]; omega)]
  have hw : w = v := by
    rcases Nat.lt_trichotomy w v with h | h | h
    · obtain ⟨c, hc, hk⟩ := hb.sur w h
      rw [← hcl] at hk
      have := ha.ok.low w (List.mem_of_getElem? hk); omega
    · exact h
    · obtain ⟨c, hc, hk⟩ := ha.sur v h
      rw [hcl] at hk
      have := hb.ok.low v (List.mem_of_getElem? hk); omega
  have hnext : a.next = b.next := by
    apply List.ext_getElem?
    intro s
    by_cases hs : s < a.next.length
    · have hsb : s < b.next.length := by omega
      rw [List.getElem?_eq_getElem hs, List.getElem?_eq_getElem hsb]
      congr 1
      apply List.ext_getElem?
      intro k
      have r1 := ha.ok.row _ (List.getElem_mem hs)
      have r2 := hb.ok.row _ (List.getElem_mem hsb)
      by_cases hk : k < w
      · obtain ⟨c, hc, hck⟩ := ha.sur k hk
        obtain ⟨k1, x1, p1, p2, p3, p4⟩ := step_at ha.ok hs hc
        obtain ⟨k2, x2, q1, q2, q3, q4⟩ := step_at hb.ok hsb hc
        rw [hck] at p1; cases p1
        rw [← hcl, hck] at q1; cases q1
        rw [List.getElem?_eq_getElem hs] at p3; cases p3
        rw [List.getElem?_eq_getElem hsb] at q3; cases q3
        rw [p4, q4, hst s c hs hc]
      · rw [List.getElem?_eq_none (by omega), List.getElem?_eq_none (by omega)]
    · rw [List.getElem?_eq_none (by omega), List.getElem?_eq_none (by omega)]
  have hacc : a.acc = b.acc := by
    apply List.ext_getElem?
    intro s
    by_cases hs : s < a.next.length
    · have h1 := (hA s hs).2 []
      unfold resA at h1
      rw [List.foldl_nil, List.foldl_nil, ends_nat, ends_nat] at h1
      unfold getB at h1
      have s1 : s < a.acc.length := by rw [ha.ok.acc]; exact hs
      have s2 : s < b.acc.length := by rw [hb.ok.acc]; omega
      rw [List.getElem?_eq_getElem s1, List.getElem?_eq_getElem s2] at h1 ⊢
      exact congrArg some h1
    · rw [List.getElem?_eq_none (by rw [ha.ok.acc]; omega), List.getElem?_eq_none (by rw [hb.ok.acc]; omega)]
  obtain ⟨c1, n1, k1⟩ := a
  obtain ⟨c2, n2, k2⟩ := b
  dsimp only at hcl hnext hacc
  rw [hcl, hnext, hacc]
end Go.Proofs.YtinbmhbfcoiefaaGreatDoor
end
section
/- The least automaton: states in the order in which they are met, classes in that of their least bytes. No program in sight. -/
namespace Go.Proofs.YtinbmhbfcoiefaaGreatDoor
open Go Go.E
set_option linter.unusedVariables false
set_option maxRecDepth 10000
/-! Classes of bytes that lead to the same from each state. -/
def colA (a : DfaA) (c : Nat) : List Int := a.next.map fun r => (r[a.cls[c]?.getD 0]?).getD (-1) + 1
def narL (a : DfaA) : Nat → Nat → List (List Int) → List Nat → List (List Int) × List Nat
  | 0, _, seen, out => (seen, out)
  | k + 1, c, seen, out =>
    match seen.idxOf? (colA a c) with
    | some j => narL a k (c + 1) seen (out ++ [j])
    | none => narL a k (c + 1) (seen ++ [colA a c]) (out ++ [seen.length])
def narrowA (a : DfaA) : DfaA := ⟨(narL a 256 0 [] []).2, (List.range a.next.length).map fun s => (narL a 256 0 [] []).1.map fun col => (col[s]?.getD 0) - 1, a.acc⟩
structure NumC (a : DfaA) (i : Nat) (seen : List (List Int)) (out : List Nat) : Prop where
  len : out.length = i
  nodup : seen.Nodup
  at' : ∀ c, c < i → ∃ k, out[c]? = some k ∧ seen[k]? = some (colA a c)
  from' : ∀ k, k < seen.length → ∃ c, c < i ∧ out[c]? = some k
  first : ∀ c k, c < i → out[c]? = some k → ∀ j, j < k → ∃ d, d < c ∧ out[d]? = some j
theorem snoc_get {α : Type} {l : List α} {v x : α} {i : Nat} (h : (l ++ [v])[i]? = some x) : (i < l.length ∧ l[i]? = some x) ∨ (i = l.length ∧ x = v) := by
  by_cases hi : i < l.length
  · rw [List.getElem?_append_left hi] at h; exact .inl ⟨hi, h⟩
  · have := (List.getElem?_eq_some_iff.1 h).1
    have e : i = l.length := by simp at this; omega
    subst e
    rw [List.getElem?_append_right (Nat.le_refl _), Nat.sub_self] at h
    exact .inr ⟨rfl, (Option.some.inj h).symm⟩
theorem snoc_old {α : Type} {l : List α} {v x : α} {i : Nat} (h : l[i]? = some x) : (l ++ [v])[i]? = some x := by
  rw [List.getElem?_append_left (List.getElem?_eq_some_iff.1 h).1]; exact h
theorem snoc_new {α : Type} (l : List α) (v : α) : (l ++ [v])[l.length]? = some v := by
  rw [List.getElem?_append_right (Nat.le_refl _), Nat.sub_self]; rfl
theorem nar_ok {a : DfaA} : ∀ (k i : Nat) (seen : List (List Int)) (out : List Nat), NumC a i seen out → NumC a (i + k) (narL a k i seen out).1 (narL a k i seen out).2
  | 0, i, seen, out, h => h
  | k + 1, i, seen, out, h => by
    rw [narL, show i + (k + 1) = i + 1 + k by omega]
    have hl := h.len
    split
    · rename_i j0 hj0
      obtain ⟨hlt, hk, _⟩ := List.findIdx?_eq_some_iff_getElem.1 hj0
      have hk : seen[j0] = colA a i := eq_of_beq hk
      refine nar_ok k (i + 1) seen _ ⟨by simp [hl], h.nodup, fun c hc => ?_, fun j hj => ?_, fun c m hc hm j hj => ?_⟩
      · by_cases e : c = i
        · subst e
          exact ⟨j0, by rw [← hl]; exact snoc_new out j0, by rw [List.getElem?_eq_getElem hlt, hk]⟩
        · obtain ⟨m, h1, h2⟩ := h.at' c (by omega)
          exact ⟨m, snoc_old h1, h2⟩
      · obtain ⟨c, h1, h2⟩ := h.from' j hj
        exact ⟨c, by omega, snoc_old h2⟩
      · rcases snoc_get hm with ⟨h1, h2⟩ | ⟨h1, h2⟩
        · obtain ⟨d, h3, h4⟩ := h.first c m (by omega) h2 j hj
          exact ⟨d, h3, snoc_old h4⟩
        · obtain ⟨d, h3, h4⟩ := h.from' j (by omega)
          exact ⟨d, by omega, snoc_old h4⟩
    · rename_i hj0
      have hnm : colA a i ∉ seen := fun hm => by
        have := List.findIdx?_eq_none_iff.1 hj0 _ hm
        simp at this
      refine nar_ok k (i + 1) _ _ ⟨by simp [hl], List.nodup_append.2 ⟨h.nodup, by simp, fun x hx y hy e => by
        rw [List.mem_singleton] at hy; subst hy; subst e; exact hnm hx⟩, fun c hc => ?_, fun j hj => ?_, fun c m hc hm j hj => ?_⟩
      · by_cases e : c = i
        · subst e
          exact ⟨seen.length, by rw [← hl]; exact snoc_new out seen.length, snoc_new _ _⟩
        · obtain ⟨m, h1, h2⟩ := h.at' c (by omega)
          exact ⟨m, snoc_old h1, snoc_old h2⟩
      · by_cases e : j = seen.length
        · exact ⟨i, by omega, by rw [e, ← hl]; exact snoc_new out seen.length⟩
        · obtain ⟨c, h1, h2⟩ := h.from' j (by simp at hj; omega)
          exact ⟨c, by omega, snoc_old h2⟩
      · rcases snoc_get hm with ⟨h1, h2⟩ | ⟨h1, h2⟩
        · obtain ⟨d, h3, h4⟩ := h.first c m (by omega) h2 j hj
          exact ⟨d, h3, snoc_old h4⟩
        · obtain ⟨d, h3, h4⟩ := h.from' j (by omega)
          exact ⟨d, by omega, snoc_old h4⟩
theorem nar_all (a : DfaA) : NumC a 256 (narL a 256 0 [] []).1 (narL a 256 0 [] []).2 := by
  have := nar_ok 256 0 [] [] (a := a) ⟨rfl, List.nodup_nil, fun c h => by omega, fun k h => by simp at h, fun c k h => by omega⟩
  rwa [Nat.zero_add] at this
/-- What the narrowed automaton is. -/
structure Narrow (a m : DfaA) (w : Nat) : Prop where
  ok : DfaOk w m
  sur : SurA w m
  nlen : m.next.length = a.next.length
  acc : m.acc = a.acc
  step : ∀ (s c : Nat), s < a.next.length → c < 256 → stepA m (s : Int) c = stepA a (s : Int) c
  like : ∀ c d k, c < 256 → d < 256 → m.cls[c]? = some k → (m.cls[d]? = some k ↔ ∀ s : Nat, s < a.next.length → stepA a (s : Int) c = stepA a (s : Int) d)
  first : ∀ c k, c < 256 → m.cls[c]? = some k → ∀ j, j < k → ∃ d, d < c ∧ m.cls[d]? = some j
theorem col_get {w : Nat} {a : DfaA} (h : DfaOk w a) {s c : Nat} (hs : s < a.next.length) (hc : c < 256) : (colA a c)[s]? = some (stepA a (s : Int) c + 1) := by
  obtain ⟨k, r, h1, h2, h3, h4⟩ := step_at h hs hc
  unfold colA
  rw [List.getElem?_map, h3, h1]
  simp only [Option.map_some, Option.getD_some]
  rw [h4]; rfl
theorem narrow_ok {w : Nat} {a : DfaA} (h : DfaOk w a) (hpos : 0 < a.next.length) : ∃ v, Narrow a (narrowA a) v ∧ v ≤ 256 := by
  have hn := nar_all a
  unfold narrowA
  generalize narL a 256 0 [] [] = r at *
  obtain ⟨seen, out⟩ := r
  dsimp only at hn ⊢
  have hseen : ∀ k, k < seen.length → ∃ c, c < 256 ∧ out[c]? = some k ∧ seen[k]? = some (colA a c) := fun k hk => by
    obtain ⟨c, h1, h2⟩ := hn.from' k hk
    obtain ⟨m, h3, h4⟩ := hn.at' c h1
    rw [h2] at h3; cases h3
    exact ⟨c, h1, h2, h4⟩
  have hlow : ∀ k ∈ out, k < seen.length := fun k hk => by
    obtain ⟨i, hi, e⟩ := List.getElem_of_mem hk
    obtain ⟨m, h3, h4⟩ := hn.at' i (by have := hn.len; omega)
    rw [List.getElem?_eq_getElem hi, e] at h3; cases h3
    exact (List.getElem?_eq_some_iff.1 h4).1
  have hrow : ∀ s, s < a.next.length → ∀ k c, c < 256 → out[c]? = some k → ((seen.map fun col => (col[s]?.getD 0) - 1)[k]?) = some (stepA a (s : Int) c) := fun s hs k c hc hk => by
    obtain ⟨m, h3, h4⟩ := hn.at' c hc
    rw [hk] at h3; cases h3
    rw [List.getElem?_map, h4, Option.map_some, col_get h hs hc, Option.getD_some, Int.add_sub_cancel]
  have hstep : ∀ (s c : Nat), s < a.next.length → c < 256 → stepA ⟨out, (List.range a.next.length).map fun s => seen.map fun col => (col[s]?.getD 0) - 1, a.acc⟩ (s : Int) c = stepA a (s : Int) c := fun s c hs hc => by
    obtain ⟨k, h1, h2⟩ := hn.at' c hc
    show (if _ then _ else _) = _
    rw [if_neg (by simp; omega), Int.toNat_natCast]
    dsimp only
    rw [List.getElem?_map, List.getElem?_range hs, h1]
    simp only [Option.map_some, Option.getD_some]
    rw [hrow s hs k c hc h1]; rfl
  refine ⟨seen.length, ⟨⟨hn.len, hlow, by simp [h.acc], fun r hr => ?_, fun r hr z hz => ?_⟩, fun k hk => ?_, by simp, rfl, hstep, fun c d k hc hd hk => ?_, fun c k hc hk => hn.first c k hc hk⟩, ?_⟩
  · obtain ⟨s, _, rfl⟩ := List.mem_map.1 hr
    simp
  · obtain ⟨s, hs, rfl⟩ := List.mem_map.1 hr
    have hs := List.mem_range.1 hs
    obtain ⟨k, hk, e⟩ := List.getElem_of_mem hz
    have hk2 : k < seen.length := by simpa using hk
    obtain ⟨c, h1, h2, _⟩ := hseen k hk2
    have h3 := hrow s hs k c h1 h2
    rw [List.getElem?_eq_getElem hk, e] at h3
    rw [Option.some.inj h3]
    rcases step_to h (s : Int) h1 with h4 | ⟨t, h4, h5⟩
    · exact .inl h4
    · refine .inr ⟨by omega, ?_⟩
      simp; omega
  · obtain ⟨c, h1, h2, _⟩ := hseen k hk
    exact ⟨c, h1, h2⟩
  · obtain ⟨k1, p1, p2⟩ := hn.at' c hc
    obtain ⟨k2, q1, q2⟩ := hn.at' d hd
    have hk : out[c]? = some k := hk
    have hkk : k1 = k := by rw [p1] at hk; exact Option.some.inj hk
    rw [hkk] at p1 p2
    have hcol : (out[d]? = some k) ↔ colA a c = colA a d := by
      rw [q1]
      constructor
      · intro e; cases e; rw [p2] at q2; exact Option.some.inj q2
      · intro e
        rw [e] at p2
        have := (List.getElem?_inj (List.getElem?_eq_some_iff.1 p2).1 hn.nodup).1 (p2.trans q2.symm)
        rw [this]
    show out[d]? = some k ↔ _
    rw [hcol]
    constructor
    · intro e s hs
      have h1 := col_get h hs hc
      rw [e, col_get h hs hd] at h1
      have := Option.some.inj h1
      omega
    · intro e
      apply List.ext_getElem?
      intro s
      by_cases hs : s < a.next.length
      · rw [col_get h hs hc, col_get h hs hd, e s hs]
      · rw [List.getElem?_eq_none (by simp [colA]; omega), List.getElem?_eq_none (by simp [colA]; omega)]
  · -- no more classes than bytes
    have h1 : ∀ x ∈ List.range seen.length, x ∈ out := fun x hx => by
      obtain ⟨c, _, h2, _⟩ := hseen x (List.mem_range.1 hx)
      exact List.mem_of_getElem? h2
    have := nodup_le List.nodup_range h1
    rw [List.length_range, hn.len] at this; exact this
end Go.Proofs.YtinbmhbfcoiefaaGreatDoor
end
