/- What the reference parser's loops go over: the pieces of a text with their counts, the parts between bars; plain. No program in sight. -/
import Derived.Test.YtniofdklhlbphaaDoorRxB
namespace Go.Proofs.YtniofdklhlbphaaDoor
open Go Go.E
set_option linter.unusedVariables false
set_option maxRecDepth 10000
theorem add_or {w k : Nat} (h : w.testBit k = false) : w + 2 ^ k = w ||| 2 ^ k := by
  have h2 : w / 2 ^ k % 2 = 0 := by
    have := h
    rw [Nat.testBit_eq_decide_div_mod_eq] at this
    have := of_decide_eq_false this
    omega
  have hp : 0 < 2 ^ k := Nat.two_pow_pos k
  have e1 : 2 ^ (k + 1) = 2 ^ k * 2 := Nat.pow_succ 2 k
  have e2 : w = 2 ^ (k + 1) * (w / 2 ^ k / 2) + w % 2 ^ k := by
    have h3 := Nat.div_add_mod w (2 ^ k)
    have h4 : w / 2 ^ k = 2 * (w / 2 ^ k / 2) := by omega
    rw [e1, Nat.mul_assoc, ← h4]; omega
  have hr : w % 2 ^ k < 2 ^ k := Nat.mod_lt _ hp
  generalize w / 2 ^ k / 2 = q at e2
  generalize w % 2 ^ k = r at e2 hr
  subst e2
  have hr2 : r < 2 ^ (k + 1) := by omega
  have hr3 : 2 ^ k + r < 2 ^ (k + 1) := by omega
  rw [Nat.two_pow_add_eq_or_of_lt hr2, Nat.or_assoc, Nat.or_comm r]
  have h5 := Nat.two_pow_add_eq_or_of_lt hr 1
  rw [Nat.mul_one] at h5
  rw [← h5, ← Nat.two_pow_add_eq_or_of_lt hr3, ← Nat.two_pow_add_eq_or_of_lt hr2]
  omega
/-- A count in braces: the first number, and what stands behind it. -/
structure CountF (l t : List UInt8) (a b : Int) : Prop where
  digs : ∀ c ∈ l, isDig c.toNat = true
  le : valOf l ≤ 256
  low : a = (valOf l : Int)
  high : t = [] ∧ b = a ∨ t = [44] ∧ b = -1 ∨ ∃ m, m ≠ [] ∧ t = 44 :: m ∧ (∀ c ∈ m, isDig c.toNat = true) ∧ valOf m ≤ 256 ∧ b = (valOf m : Int)
theorem DNum.ne {l : List UInt8} {n : Nat} (h : DNum l n) : l ≠ [] := by
  rintro rfl
  have := h.good
  revert this; decide
theorem DCount.form {l : List UInt8} {a b : Int} (h : DCount l a b) : ∃ d t, l = d ++ (t ++ [125]) ∧ CountF d t a b := by
  cases h with
  | @just l n h => exact ⟨l, [], by simp, h.digs, by rw [h.val]; exact h.le, by rw [h.val], .inl ⟨rfl, rfl⟩⟩
  | @up l n h => exact ⟨l, [44], by simp, h.digs, by rw [h.val]; exact h.le, by rw [h.val], .inr (.inl ⟨rfl, rfl⟩)⟩
  | @both l m n k h h2 hle => exact ⟨l, 44 :: m, by simp, h.digs, by rw [h.val]; exact h.le, by rw [h.val], .inr (.inr ⟨m, h2.ne, rfl, h2.digs, by rw [h2.val]; exact h2.le, by rw [h2.val]⟩)⟩
theorem DRep.form {m : List UInt8} {a b : Int} (h : DRep m a b) : (m = [42] ∧ a = 0 ∧ b = -1) ∨ (m = [43] ∧ a = 1 ∧ b = -1) ∨ (m = [63] ∧ a = 0 ∧ b = 1) ∨ ∃ d t, m = 123 :: (d ++ (t ++ [125])) ∧ CountF d t a b := by
  cases h with
  | star => exact .inl ⟨rfl, rfl, rfl⟩
  | plus => exact .inr (.inl ⟨rfl, rfl, rfl⟩)
  | opt => exact .inr (.inr (.inl ⟨rfl, rfl, rfl⟩))
  | count h => obtain ⟨d, t, rfl, hc⟩ := h.form; exact .inr (.inr (.inr ⟨d, t, rfl, hc⟩))
theorem dig_125 : ∀ c : UInt8, isDig c.toNat = true → c ≠ 125 ∧ c ≠ 44 ∧ 48 ≤ c.toNat ∧ c.toNat ≤ 57 := by
  intro c h
  refine ⟨?_, ?_, ?_⟩
  · rintro rfl; revert h; decide
  · rintro rfl; revert h; decide
  · unfold isDig at h
    simpa using h
theorem CountF.no125 {l t : List UInt8} {a b : Int} (h : CountF l t a b) : ∀ c ∈ l ++ t, c ≠ 125 := by
  intro c hc
  rcases List.mem_append.1 hc with hc | hc
  · exact (dig_125 c (h.digs c hc)).1
  · rcases h.high with ⟨rfl, _⟩ | ⟨rfl, _⟩ | ⟨m, _, rfl, hd, _⟩
    · cases hc
    · rw [List.mem_singleton] at hc; subst hc; decide
    · rcases List.mem_cons.1 hc with rfl | hc
      · decide
      · exact (dig_125 c (hd c hc)).1
theorem val_snoc (l : List UInt8) (c : UInt8) : valOf (l ++ [c]) = 10 * valOf l + (c.toNat - 48) := by
  unfold valOf; rw [List.foldl_append]; rfl
theorem val_take {l : List UInt8} {k : Nat} (hk : k < l.length) : valOf (l.take (k + 1)) = 10 * valOf (l.take k) + (l[k].toNat - 48) := by
  rw [List.take_add_one, List.getElem?_eq_getElem hk]; exact val_snoc _ _
theorem val_app_le : ∀ (m l : List UInt8), valOf l ≤ valOf (l ++ m)
  | [], l => by simp
  | c :: m, l => by
    have h1 := val_app_le m (l ++ [c])
    rw [val_snoc, List.append_assoc, List.singleton_append] at h1; omega
theorem val_take_le (l : List UInt8) (k : Nat) : valOf (l.take k) ≤ valOf l := by
  have := val_app_le (l.drop k) (l.take k)
  rwa [List.take_append_drop] at this
/-- The sign at a place, off what stands from there on. -/
theorem get_drop {t : List UInt8} {i : Nat} {x : UInt8} {m : List UInt8} (h : t.drop i = x :: m) : i < t.length ∧ t[i]! = x := by
  have h1 : i < t.length := by
    apply Classical.byContradiction
    intro hn
    rw [List.drop_eq_nil_of_le (by omega)] at h; cases h
  refine ⟨h1, ?_⟩
  rw [List.drop_eq_getElem_cons h1] at h
  rw [getElem!_pos t i h1]; exact (List.cons.inj h).1
theorem flat_at (ps : List (List UInt8)) (j : Nat) (s : List UInt8) : (ps.flatten ++ s).drop (ps.take j).flatten.length = (ps.drop j).flatten ++ s := by
  have e : ps.flatten = (ps.take j).flatten ++ (ps.drop j).flatten := by rw [← List.flatten_append, List.take_append_drop]
  rw [e, List.append_assoc, List.drop_left]
theorem flat_len {ps : List (List UInt8)} {j : Nat} {p : List UInt8} (h : ps[j]? = some p) : (ps.take (j + 1)).flatten.length = (ps.take j).flatten.length + p.length := by
  rw [List.take_add_one, h]; simp
theorem flat_all (ps : List (List UInt8)) : (ps.take ps.length).flatten = ps.flatten := by rw [List.take_length]
theorem drop_get {α : Type} {ps : List α} {j : Nat} (h : j < ps.length) : ∃ p, ps[j]? = some p ∧ ps.drop j = p :: ps.drop (j + 1) := ⟨ps[j], List.getElem?_eq_getElem h, List.drop_eq_getElem_cons h⟩
theorem flat_le (ps : List (List UInt8)) (j : Nat) : (ps.take j).flatten.length ≤ ps.flatten.length := by
  have e : ps.flatten = (ps.take j).flatten ++ (ps.drop j).flatten := by rw [← List.flatten_append, List.take_append_drop]
  rw [e, List.length_append]; omega
section
variable {A : List UInt8 → RgD → Prop}
/-- The counts behind a piece, one after another. -/
def repsD (n : RgD) (rs : List (List UInt8 × Int × Int)) : RgD := rs.foldl (fun x r => repD x r.2.1 r.2.2) n
theorem reps_snoc (n : RgD) (rs : List (List UInt8 × Int × Int)) (r : List UInt8 × Int × Int) : repsD n (rs ++ [r]) = repD (repsD n rs) r.2.1 r.2.2 := by
  unfold repsD; rw [List.foldl_append]; rfl
def textsOf {α : Type} (rs : List (List UInt8 × α)) : List UInt8 := (rs.map (·.1)).flatten
theorem texts_nil {α : Type} : textsOf ([] : List (List UInt8 × α)) = [] := rfl
theorem texts_cons {α : Type} (r : List UInt8 × α) (rs : List (List UInt8 × α)) : textsOf (r :: rs) = r.1 ++ textsOf rs := rfl
theorem texts_app {α : Type} (rs qs : List (List UInt8 × α)) : textsOf (rs ++ qs) = textsOf rs ++ textsOf qs := by simp [textsOf]
theorem DPair.form {l : List UInt8} {c d : Nat} (h : DPair l c d) : (DByte l c ∧ d = c) ∨ ∃ a m, l = a ++ 45 :: m ∧ DByte a c ∧ DByte m d ∧ c ≤ d := by
  cases h with
  | one h => exact .inl ⟨h, rfl⟩
  | two h1 h2 h => exact .inr ⟨_, _, rfl, h1, h2, h⟩
/-- The sets that pairs of ends put together, one after another. -/
def pairsD (z : SetD) (ps : List (List UInt8 × Nat × Nat)) : SetD := ps.foldl (fun z p => z.or (rangeD p.2.1 p.2.2)) z
theorem pairs_cons (z : SetD) (p : List UInt8 × Nat × Nat) (ps : List (List UInt8 × Nat × Nat)) : pairsD z (p :: ps) = pairsD (z.or (rangeD p.2.1 p.2.2)) ps := rfl
theorem pairs_take {z : SetD} {ps : List (List UInt8 × Nat × Nat)} {j : Nat} {p : List UInt8 × Nat × Nat} (h : ps[j]? = some p) : pairsD z (ps.take (j + 1)) = (pairsD z (ps.take j)).or (rangeD p.2.1 p.2.2) := by
  unfold pairsD; rw [List.take_add_one, h, List.foldl_append]; rfl
theorem pairs_in {z : SetD} (hz : SetIn z) : ∀ (ps : List (List UInt8 × Nat × Nat)), SetIn (pairsD z ps)
  | [] => hz
  | p :: ps => by rw [pairs_cons]; exact pairs_in (SetIn.or hz (range_in _ _)) ps
theorem DItems.form {l : List UInt8} {z w : SetD} (h : DItems l z w) : ∃ ps : List (List UInt8 × Nat × Nat), l = textsOf ps ∧ w = pairsD z ps ∧ ∀ p ∈ ps, DPair p.1 p.2.1 p.2.2 := by
  induction h with
  | nil z => exact ⟨[], rfl, rfl, fun p hp => by cases hp⟩
  | @cons l m c d z w h1 h2 ih =>
    obtain ⟨ps, rfl, rfl, h3⟩ := ih
    refine ⟨(l, c, d) :: ps, rfl, rfl, fun p hp => ?_⟩
    rcases List.mem_cons.1 hp with rfl | hp
    · exact h1
    · exact h3 p hp
/-- What stands between the brackets of a set: pairs, turned or not. -/
theorem DSet.form {b : List UInt8} {z : SetD} (h : DSet (b ++ [93]) z) : ∃ ps : List (List UInt8 × Nat × Nat), (∀ p ∈ ps, DPair p.1 p.2.1 p.2.2) ∧ (b = textsOf ps ∧ ps ≠ [] ∧ z = pairsD zeroS ps ∨ b = 94 :: textsOf ps ∧ z = (pairsD zeroS ps).not) := by
  generalize hg : b ++ [93] = l' at h
  cases h with
  | pos h h0 =>
    obtain ⟨ps, rfl, rfl, h3⟩ := h.form
    have := List.append_cancel_right hg
    subst this
    exact ⟨ps, h3, .inl ⟨rfl, (fun e => h0 (by rw [e]; rfl)), rfl⟩⟩
  | neg h h0 =>
    obtain ⟨ps, rfl, rfl, h3⟩ := h.form
    have := List.append_cancel_right (hg.trans (List.cons_append).symm)
    subst this
    exact ⟨ps, h3, .inr ⟨rfl, rfl⟩⟩
/-- What stands behind a pair does not begin with what would go on with it. -/
theorem pairs_head {ps : List (List UInt8 × Nat × Nat)} (h : ∀ p ∈ ps, DPair p.1 p.2.1 p.2.2) : textsOf ps = [] ∧ ps = [] ∨ ∃ x m, textsOf ps = x :: m ∧ x ≠ 45 ∧ x ≠ 94 := by
  cases ps with
  | nil => exact .inl ⟨rfl, rfl⟩
  | cons p ps =>
    obtain ⟨x, m, e, hx⟩ := (h p (by simp)).head
    have hs := head_sig x.toNat x.toNat_lt hx
    refine .inr ⟨x, m ++ textsOf ps, by rw [texts_cons, e]; rfl, ?_, ?_⟩
    · rintro rfl; exact hs.2.1 rfl
    · rintro rfl; exact hs.2.2.2.1 rfl
theorem DPiece.form {l : List UInt8} {n : RgD} (h : DPiece A l n) : ∃ (a : List UInt8) (n0 : RgD) (rs : List (List UInt8 × Int × Int)), DAtom A a n0 ∧ l = a ++ textsOf rs ∧ (∀ r ∈ rs, DRep r.1 r.2.1 r.2.2) ∧ n = repsD n0 rs := by
  induction h with
  | atom h => exact ⟨_, _, [], h, by simp [textsOf], (fun r hr => by cases hr), rfl⟩
  | @rep l m n a b h h2 ih =>
    obtain ⟨x, n0, rs, h1, rfl, h3, rfl⟩ := ih
    refine ⟨x, n0, rs ++ [(m, a, b)], h1, by rw [texts_app, ← List.append_assoc]; simp [textsOf], (fun r hr => ?_), (reps_snoc n0 rs (m, a, b)).symm⟩
    rcases List.mem_append.1 hr with hr | hr
    · exact h3 r hr
    · rw [List.mem_singleton.1 hr]; exact h2
theorem DPieces.form {l : List UInt8} {ns : List RgD} (h : DPieces A l ns) : ∃ ps : List (List UInt8 × RgD), l = textsOf ps ∧ ns = ps.map (·.2) ∧ ∀ p ∈ ps, DPiece A p.1 p.2 := by
  induction h with
  | nil => exact ⟨[], rfl, rfl, fun p hp => by cases hp⟩
  | @cons l m n r h1 h2 ih =>
    obtain ⟨ps, rfl, rfl, h3⟩ := ih
    refine ⟨(l, n) :: ps, rfl, rfl, fun p hp => ?_⟩
    rcases List.mem_cons.1 hp with rfl | hp
    · exact h1
    · exact h3 p hp
/-- Parts with bars between them. -/
def barsOf : List (List UInt8) → List UInt8
  | [] => []
  | [l] => l
  | l :: r => l ++ 124 :: barsOf r
theorem bars_cons {l m : List UInt8} {r : List (List UInt8)} : barsOf (l :: m :: r) = l ++ 124 :: barsOf (m :: r) := rfl
theorem DCats.form {l : List UInt8} {ns : List RgD} (h : DCats A l ns) : ∃ ps : List (List UInt8 × RgD), ps ≠ [] ∧ l = barsOf (ps.map (·.1)) ∧ ns = ps.map (·.2) ∧ ∀ p ∈ ps, DCat A p.1 p.2 := by
  induction h with
  | @one l n h => exact ⟨[(l, n)], by simp, rfl, rfl, fun p hp => by rw [List.mem_singleton.1 hp]; exact h⟩
  | @cons l m n r h1 h2 ih =>
    obtain ⟨ps, h0, rfl, rfl, h3⟩ := ih
    refine ⟨(l, n) :: ps, by simp, ?_, rfl, fun p hp => ?_⟩
    · cases ps with
      | nil => exact absurd rfl h0
      | cons q ps => rfl
    · rcases List.mem_cons.1 hp with rfl | hp
      · exact h1
      · exact h3 p hp
/-- What stands behind a part. -/
def tailB : List (List UInt8) → List UInt8
  | [] => []
  | r => 124 :: barsOf r
theorem bars_tail (l : List UInt8) : ∀ (r : List (List UInt8)), barsOf (l :: r) = l ++ tailB r
  | [] => by rw [tailB, List.append_nil]; rfl
  | m :: r => rfl
/-- Where a part begins. -/
def offB (L : List (List UInt8)) (j : Nat) : Nat := ((L.take j).map fun l => l.length + 1).sum
theorem off_zero (L : List (List UInt8)) : offB L 0 = 0 := rfl
theorem off_succ {L : List (List UInt8)} {j : Nat} {l : List UInt8} (h : L[j]? = some l) : offB L (j + 1) = offB L j + l.length + 1 := by
  unfold offB; rw [List.take_add_one, h]; simp; omega
theorem bars_drop : ∀ (L : List (List UInt8)) (j : Nat), j < L.length → (barsOf L).drop (offB L j) = barsOf (L.drop j)
  | [], j, h => absurd h (by simp)
  | l :: r, 0, h => rfl
  | [l], j + 1, h => absurd h (by simp)
  | l :: m :: r, j + 1, h => by
    have e : offB (l :: m :: r) (j + 1) = l.length + (1 + offB (m :: r) j) := by unfold offB; simp; omega
    rw [e, bars_cons, ← List.drop_drop, List.drop_left, ← List.drop_drop]
    exact bars_drop (m :: r) j (by simpa using h)
theorem bars_at {L : List (List UInt8)} {j : Nat} {l : List UInt8} (h : L[j]? = some l) : (barsOf L).drop (offB L j) = l ++ tailB (L.drop (j + 1)) := by
  obtain ⟨hj, e⟩ := List.getElem?_eq_some_iff.1 h
  rw [bars_drop L j hj, List.drop_eq_getElem_cons hj, e, bars_tail]
theorem tail_some {L : List (List UInt8)} {j : Nat} (h : j < L.length) : tailB (L.drop j) = 124 :: barsOf (L.drop j) := by
  rw [List.drop_eq_getElem_cons h]; rfl
theorem tail_none {L : List (List UInt8)} {j : Nat} (h : L.length ≤ j) : tailB (L.drop j) = [] := by
  rw [List.drop_eq_nil_of_le h]; rfl
/-- A part, cut out between two places. -/
theorem bars_cut {L : List (List UInt8)} {j : Nat} {l : List UInt8} (h : L[j]? = some l) : ((barsOf L).drop (offB L j)).take l.length = l := by
  rw [bars_at h, List.take_left]
end
end Go.Proofs.YtniofdklhlbphaaDoor
