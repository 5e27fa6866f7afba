/- Where free edges lead, and edges by a byte: the states that can be reached, as data. No program in sight. -/
import Derived.Test.YtkpdnpcmeadggaaNf1
namespace Go.Proofs.Ytkpdnpcmeadggaa
open Go Go.E
set_option linter.unusedVariables false
set_option maxRecDepth 10000
abbrev RowsN := List (List EdgeD)
def freeTo (rows : RowsN) (s : Nat) : List Nat := ((rows[s]?.getD []).filter (·.free)).map (·.to)
/-- The states that free edges lead to, from some. -/
inductive Rch (rows : RowsN) (list : List Int) : Nat → Prop
  | base {j : Nat} (h : (j : Int) ∈ list) (hj : j < rows.length) : Rch rows list j
  | step {i j : Nat} (h : Rch rows list i) (hj : j ∈ freeTo rows i) : Rch rows list j
def getB (m : List Bool) (i : Nat) : Bool := m[i]?.getD false
def roundR (rows : RowsN) (m : List Bool) : List Bool := (List.range rows.length).map fun j => getB m j || (List.range rows.length).any fun i => getB m i && (freeTo rows i).contains j
def closeR (rows : RowsN) : Nat → List Bool → List Bool
  | 0, m => m
  | k + 1, m => closeR rows k (roundR rows m)
def firstR (rows : RowsN) (list : List Int) : List Bool := (List.range rows.length).map fun j : Nat => list.contains (Int.ofNat j)
def reachN (rows : RowsN) (list : List Int) : List Nat :=
  let m := closeR rows rows.length (firstR rows list)
  (List.range rows.length).filter fun j => getB m j
theorem getB_map {n : Nat} (p : Nat → Bool) (j : Nat) : getB ((List.range n).map p) j = (decide (j < n) && p j) := by
  unfold getB
  rw [List.getElem?_map]
  by_cases h : j < n
  · rw [List.getElem?_range h]; simp [h]
  · rw [List.getElem?_eq_none (by simpa using h)]; simp [h]
def ClosedR (rows : RowsN) (m : List Bool) : Prop := ∀ i j : Nat, getB m i = true → j ∈ freeTo rows i → getB m j = true
def ToIn (rows : RowsN) : Prop := ∀ row ∈ rows, ∀ x ∈ row, x.to < rows.length
theorem freeTo_lt {rows : RowsN} (h : ToIn rows) {i j : Nat} (hj : j ∈ freeTo rows i) : j < rows.length := by
  unfold freeTo at hj
  obtain ⟨x, hx, rfl⟩ := List.mem_map.1 hj
  have hx := (List.mem_filter.1 hx).1
  cases hr : rows[i]? with
  | none => rw [hr] at hx; cases hx
  | some row => rw [hr] at hx; exact h row (List.mem_of_getElem? hr) x hx
theorem freeTo_src {rows : RowsN} {i j : Nat} (hj : j ∈ freeTo rows i) : i < rows.length := by
  apply Classical.byContradiction
  intro hn
  unfold freeTo at hj
  rw [List.getElem?_eq_none (by omega)] at hj
  simp at hj
theorem round_get {rows : RowsN} (h : ToIn rows) (m : List Bool) (j : Nat) : getB (roundR rows m) j = true ↔ (j < rows.length ∧ getB m j = true) ∨ ∃ i, getB m i = true ∧ j ∈ freeTo rows i := by
  unfold roundR
  rw [getB_map, Bool.and_eq_true, decide_eq_true_iff, Bool.or_eq_true, List.any_eq_true]
  constructor
  · rintro ⟨h1, h2 | ⟨i, _, h2⟩⟩
    · exact .inl ⟨h1, h2⟩
    · rw [Bool.and_eq_true, List.contains_iff_mem] at h2
      exact .inr ⟨i, h2.1, h2.2⟩
  · rintro (⟨h1, h2⟩ | ⟨i, h2, h3⟩)
    · exact ⟨h1, .inl h2⟩
    · exact ⟨freeTo_lt h h3, .inr ⟨i, List.mem_range.2 (freeTo_src h3), by rw [Bool.and_eq_true, List.contains_iff_mem]; exact ⟨h2, h3⟩⟩⟩
def cntB (m : List Bool) : Nat := m.count true
theorem cnt_le : ∀ (a b : List Bool), a.length = b.length → (∀ i, getB a i = true → getB b i = true) → cntB a ≤ cntB b
  | [], b, _, _ => Nat.zero_le _
  | x :: a, [], h, _ => by simp at h
  | x :: a, y :: b, h, h2 => by
    have ih := cnt_le a b (by simpa using h) (fun i hi => h2 (i + 1) hi)
    have h0 := h2 0
    unfold cntB at *
    rw [List.count_cons, List.count_cons]
    cases x with
    | false => simp; split <;> omega
    | true => have := h0 rfl; have hy : y = true := this; subst hy; simp; omega
theorem cnt_lt : ∀ (a b : List Bool), a.length = b.length → (∀ i, getB a i = true → getB b i = true) → (∃ i, getB a i = false ∧ getB b i = true) → cntB a + 1 ≤ cntB b
  | [], b, h, _, ⟨i, _, h3⟩ => by
    have : b = [] := List.eq_nil_of_length_eq_zero h.symm
    subst this; simp [getB] at h3
  | x :: a, [], h, _, _ => by simp at h
  | x :: a, y :: b, h, h2, ⟨i, h3, h4⟩ => by
    have hl : a.length = b.length := by simpa using h
    have hle := cnt_le a b hl (fun i hi => h2 (i + 1) hi)
    cases i with
    | zero =>
      have hx : x = false := h3
      have hy : y = true := h4
      subst hx; subst hy
      unfold cntB at *
      rw [List.count_cons, List.count_cons]; simp; omega
    | succ i =>
      have ih := cnt_lt a b hl (fun i hi => h2 (i + 1) hi) ⟨i, h3, h4⟩
      have h0 := h2 0
      unfold cntB at *
      rw [List.count_cons, List.count_cons]
      cases x with
      | false => simp; split <;> omega
      | true => have hy : y = true := h0 rfl; subst hy; simp; omega
theorem cnt_max (m : List Bool) (h : m.length ≤ cntB m) : ∀ i, i < m.length → getB m i = true := by
  intro i hi
  unfold cntB at h
  have h2 : m.count true = m.length := Nat.le_antisymm List.count_le_length h
  have h3 := List.count_eq_length.1 h2
  unfold getB
  rw [List.getElem?_eq_getElem hi, Option.getD_some]
  exact (h3 _ (List.getElem_mem hi)).symm
theorem round_len (rows : RowsN) (m : List Bool) : (roundR rows m).length = rows.length := by simp [roundR]
theorem round_keeps {rows : RowsN} (h : ToIn rows) {m : List Bool} (hl : m.length = rows.length) (i : Nat) (hi : getB m i = true) : getB (roundR rows m) i = true := by
  refine (round_get h m i).2 (.inl ⟨?_, hi⟩)
  apply Classical.byContradiction
  intro hn
  unfold getB at hi
  rw [List.getElem?_eq_none (by omega)] at hi
  cases hi
/-- A round marks more, or nothing is wanting. -/
theorem round_more {rows : RowsN} (h : ToIn rows) {m : List Bool} (hl : m.length = rows.length) : ClosedR rows m ∨ cntB m + 1 ≤ cntB (roundR rows m) := by
  by_cases hc : ClosedR rows m
  · exact .inl hc
  · refine .inr ?_
    unfold ClosedR at hc
    have hex : ∃ i j, getB m i = true ∧ j ∈ freeTo rows i ∧ getB m j = false := by
      apply Classical.byContradiction
      intro hn
      exact hc fun i j h1 h2 => by
        cases h3 : getB m j with
        | true => rfl
        | false => exact absurd ⟨i, j, h1, h2, h3⟩ hn
    obtain ⟨i, j, h1, h2, h3⟩ := hex
    exact cnt_lt m _ (by rw [hl, round_len]) (round_keeps h hl) ⟨j, h3, (round_get h m j).2 (.inr ⟨i, h1, h2⟩)⟩
theorem closed_round {rows : RowsN} (h : ToIn rows) {m : List Bool} (hl : m.length = rows.length) (hc : ClosedR rows m) : ClosedR rows (roundR rows m) := by
  intro i j hi hj
  have hm : getB m i = true := by
    rcases (round_get h m i).1 hi with h1 | ⟨i0, h1, h2⟩
    · exact h1.2
    · exact hc i0 i h1 h2
  exact round_keeps h hl j (hc i j hm hj)
theorem close_closed {rows : RowsN} (h : ToIn rows) : ∀ (k : Nat) (m : List Bool), m.length = rows.length → (ClosedR rows m ∨ rows.length ≤ k + cntB m) → ClosedR rows (closeR rows k m)
  | 0, m, hl, hc => by
    rcases hc with hc | hc
    · exact hc
    · intro i j hi hj
      exact cnt_max m (by omega) j (by rw [hl]; exact freeTo_lt h hj)
  | k + 1, m, hl, hc => by
    rw [closeR]
    refine close_closed h k _ (round_len rows m) ?_
    rcases hc with hc | hc
    · exact .inl (closed_round h hl hc)
    · rcases round_more h hl with h1 | h1
      · exact .inl (closed_round h hl h1)
      · exact .inr (by omega)
theorem close_keeps {rows : RowsN} (h : ToIn rows) : ∀ (k : Nat) (m : List Bool), m.length = rows.length → ∀ i, getB m i = true → getB (closeR rows k m) i = true
  | 0, m, hl, i, hi => hi
  | k + 1, m, hl, i, hi => close_keeps h k _ (round_len rows m) i (round_keeps h hl i hi)
theorem close_sound {rows : RowsN} (h : ToIn rows) {list : List Int} : ∀ (k : Nat) (m : List Bool), (∀ i, getB m i = true → Rch rows list i) → ∀ i, getB (closeR rows k m) i = true → Rch rows list i
  | 0, m, hs, i, hi => hs i hi
  | k + 1, m, hs, i, hi => close_sound h k _ (fun j hj => by
    rcases (round_get h m j).1 hj with h1 | ⟨i0, h1, h2⟩
    · exact hs j h1.2
    · exact .step (hs i0 h1) h2) i hi
theorem first_get {rows : RowsN} {list : List Int} (j : Nat) : getB (firstR rows list) j = true ↔ j < rows.length ∧ (j : Int) ∈ list := by
  unfold firstR
  rw [getB_map, Bool.and_eq_true, decide_eq_true_iff, List.contains_iff_mem]
  exact Iff.rfl
theorem rch_lt {rows : RowsN} (h : ToIn rows) {list : List Int} {j : Nat} (hj : Rch rows list j) : j < rows.length := by
  cases hj with
  | base _ h1 => exact h1
  | step _ h1 => exact freeTo_lt h h1
theorem reach_iff {rows : RowsN} (h : ToIn rows) {list : List Int} (j : Nat) : j ∈ reachN rows list ↔ Rch rows list j := by
  unfold reachN
  dsimp only
  rw [List.mem_filter, List.mem_range]
  have hl : (firstR rows list).length = rows.length := by simp [firstR]
  have hcl := close_closed h rows.length (firstR rows list) hl (.inr (by omega))
  constructor
  · rintro ⟨_, h2⟩
    exact close_sound h _ _ (fun i hi => by obtain ⟨h3, h4⟩ := (first_get i).1 hi; exact .base h4 h3) j h2
  · intro hr
    refine ⟨rch_lt h hr, ?_⟩
    induction hr with
    | base h1 h2 => exact close_keeps h _ _ hl _ ((first_get _).2 ⟨h2, h1⟩)
    | step h1 h2 ih => exact hcl _ _ ih h2
theorem reach_sorted (rows : RowsN) (list : List Int) : (reachN rows list).Pairwise (· < ·) := List.pairwise_lt_range.filter _
theorem reach_lt {rows : RowsN} {list : List Int} {j : Nat} (h : j ∈ reachN rows list) : j < rows.length := by
  unfold reachN at h
  exact List.mem_range.1 (List.mem_filter.1 h).1
theorem sorted_ext : ∀ {a b : List Nat}, a.Pairwise (· < ·) → b.Pairwise (· < ·) → (∀ x, x ∈ a ↔ x ∈ b) → a = b
  | [], [], _, _, _ => rfl
  | [], y :: b, _, _, h => absurd ((h y).2 (by simp)) (by simp)
  | x :: a, [], _, _, h => absurd ((h x).1 (by simp)) (by simp)
  | x :: a, y :: b, ha, hb, h => by
    obtain ⟨a1, a2⟩ := List.pairwise_cons.1 ha
    obtain ⟨b1, b2⟩ := List.pairwise_cons.1 hb
    have e : x = y := by
      rcases List.mem_cons.1 ((h x).1 (by simp)) with e | e
      · exact e
      · rcases List.mem_cons.1 ((h y).2 (by simp)) with e2 | e2
        · exact e2.symm
        · have := b1 x e; have := a1 y e2; omega
    subst e
    congr 1
    refine sorted_ext a2 b2 fun z => ⟨fun hz => ?_, fun hz => ?_⟩
    · rcases List.mem_cons.1 ((h z).1 (by simp [hz])) with e | e
      · have := a1 z hz; omega
      · exact e
    · rcases List.mem_cons.1 ((h z).2 (by simp [hz])) with e | e
      · have := b1 z hz; omega
      · exact e
/-- Numbers as a program has them. -/
def intsN (l : List Nat) : List Int := l.map Int.ofNat
theorem mem_ints {l : List Nat} {j : Nat} : (j : Int) ∈ intsN l ↔ j ∈ l := by
  unfold intsN
  rw [List.mem_map]
  constructor
  · rintro ⟨x, hx, e⟩
    have : x = j := Int.ofNat.inj e
    exact this ▸ hx
  · intro h; exact ⟨j, h, rfl⟩
/-- What was reached, reached again. -/
theorem reach_again {rows : RowsN} (h : ToIn rows) (list : List Int) : reachN rows (intsN (reachN rows list)) = reachN rows list := by
  refine sorted_ext (reach_sorted _ _) (reach_sorted _ _) fun x => ?_
  rw [reach_iff h, reach_iff h]
  constructor
  · intro hr
    induction hr with
    | base h1 h2 => exact (reach_iff h _).1 (mem_ints.1 h1)
    | step h1 h2 ih => exact .step ih h2
  · intro hr
    exact .base (mem_ints.2 ((reach_iff h x).2 hr)) (rch_lt h hr)
/-- The edges by a byte. -/
def byteTo (rows : RowsN) (c : Nat) (s : Int) : List Int := if 0 ≤ s ∧ s < rows.length then (((rows[s.toNat]?.getD []).filter fun x => !x.free && x.set.has c).map fun x => Int.ofNat x.to) else []
def stepN (rows : RowsN) (list : List Int) (c : Nat) : List Nat := reachN rows (list.flatMap (byteTo rows c))
def startN (rows : RowsN) : List Nat := if rows = [] then [] else reachN rows [0]
/-- An automaton: its edges, and where it ends. -/
structure NfaD where
  rows : RowsN
  last : Int
def endsN (a : NfaD) (list : List Int) : Bool := decide (0 < a.rows.length) && list.contains a.last
def runN (a : NfaD) (b : List UInt8) : List Nat := b.foldl (fun l c => stepN a.rows (intsN l) c.toNat) (startN a.rows)
def matchN (a : NfaD) (b : List UInt8) : Bool := endsN a (intsN (runN a b))
end Go.Proofs.Ytkpdnpcmeadggaa
