/- Texts of a walk, one behind the other. -/
import Derived.WideKeyArr
import Derived.StringKeys
import Derived.DeepKeys5
import Derived.Test.YtinbmhbfcoiefaaGreatDoorMg2
import Derived.Test.YtinbmhbfcoiefaaGreatDoorMg3
import Derived.Test.YtinbmhbfcoiefaaGreatDoorMg4
import Derived.Test.YtinbmhbfcoiefaaGreatDoorMg5
section
/- The least automaton, as the program makes it: groups in the order in which they are met, then narrowed. No program in sight. -/
namespace Go.Proofs.YtinbmhbfcoiefaaGreatDoor
open Go Go.E
set_option linter.unusedVariables false
set_option maxRecDepth 10000
def clsA (a : DfaA) (c : Nat) : Nat := a.cls[c]?.getD 0
/-- A row of the least automaton: byte by byte. -/
def rowO (a : DfaA) (g : List Int) (cur : Nat) : Nat → Nat → List Nat → List Int → List Nat × List Int
  | 0, _, order, row => (order, row)
  | k + 1, c, order, row =>
    if grpAt g (stepA a (cur : Int) c) = -1 then rowO a g cur k (c + 1) order (row.set (clsA a c) (-1))
    else match order.findIdx? (fun s => getI' g s == grpAt g (stepA a (cur : Int) c)) with
      | some n => rowO a g cur k (c + 1) order (row.set (clsA a c) (n : Int))
      | none => rowO a g cur k (c + 1) (order ++ [(stepA a (cur : Int) c).toNat]) (row.set (clsA a c) (order.length : Int))
def ordL (a : DfaA) (g : List Int) : Nat → List Nat → List (List Int) → List Bool → List Nat × List (List Int) × List Bool
  | 0, order, next, acc => (order, next, acc)
  | f + 1, order, next, acc =>
    match order[next.length]? with
    | none => (order, next, acc)
    | some cur => ordL a g f (rowO a g cur 256 0 order (List.replicate (widthA a) 0)).1 (next ++ [(rowO a g cur 256 0 order (List.replicate (widthA a) 0)).2]) (acc ++ [getB a.acc cur])
def deadA : DfaA := ⟨List.replicate 256 0, [[-1]], [false]⟩
def leastA (a : DfaA) : DfaA :=
  if a.next = [] then nilA else
  if getI' (grpA a) 0 = -1 then deadA else
  narrowA ⟨a.cls, (ordL a (grpA a) (a.next.length + 1) [0] [] []).2.1, (ordL a (grpA a) (a.next.length + 1) [0] [] []).2.2⟩
structure OrdB (a : DfaA) (g : List Int) (order : List Nat) : Prop where
  zero : order[0]? = some 0
  lt : ∀ s ∈ order, s < a.next.length
  live : ∀ s ∈ order, LiveA a s
  nodup : (order.map (getI' g)).Nodup
def RowV (a : DfaA) (g : List Int) (cur : Nat) (order : List Nat) (row : List Int) (d : Nat) : Prop :=
  (grpAt g (stepA a (cur : Int) d) = -1 ∧ row[clsA a d]? = some (-1)) ∨ ∃ i t : Nat, row[clsA a d]? = some (i : Int) ∧ order[i]? = some t ∧ getI' g t = grpAt g (stepA a (cur : Int) d)
structure RowI (a : DfaA) (g : List Int) (cur w : Nat) (base order : List Nat) (row : List Int) (c : Nat) : Prop where
  pre : ∃ e, order = base ++ e
  len : row.length = w
  ord : OrdB a g order
  at' : ∀ d, d < c → RowV a g cur order row d
  new : ∀ i : Nat, base.length ≤ i → i < order.length → ∃ d, d < c ∧ row[clsA a d]? = some (i : Int)
  first : ∀ d t : Nat, d < c → row[clsA a d]? = some (t : Int) → ∀ u : Nat, base.length ≤ u → u < t → ∃ e, e < d ∧ row[clsA a e]? = some (u : Int)
theorem cls_lt {w : Nat} {a : DfaA} (h : DfaOk w a) {c : Nat} (hc : c < 256) : clsA a c < w ∧ a.cls[c]? = some (clsA a c) := by
  have hcl : c < a.cls.length := by rw [h.cls]; exact hc
  unfold clsA
  rw [List.getElem?_eq_getElem hcl]
  exact ⟨h.low _ (List.getElem_mem hcl), rfl⟩
theorem step_cls {a : DfaA} {s : Int} {c d : Nat} (h : clsA a c = clsA a d) : stepA a s c = stepA a s d := by
  unfold clsA at h
  unfold stepA; rw [h]
theorem nodup_at {α : Type} {l : List α} (h : l.Nodup) {i j : Nat} {x : α} (hi : l[i]? = some x) (hj : l[j]? = some x) : i = j :=
  (List.getElem?_inj (List.getElem?_eq_some_iff.1 hi).1 h).1 (hi.trans hj.symm)
theorem OrdB.uniq {a : DfaA} {g : List Int} {order : List Nat} (h : OrdB a g order) {i j s t : Nat} (hi : order[i]? = some s) (hj : order[j]? = some t) (e : getI' g s = getI' g t) : i = j :=
  nodup_at h.nodup (x := getI' g s) (by rw [List.getElem?_map, hi]; rfl) (by rw [List.getElem?_map, hj, e]; rfl)
theorem grp_dead {a : DfaA} {g : List Int} (hg : GrpOk a g) {s : Nat} (h1 : s < a.next.length) (h2 : LiveA a s) : getI' g s ≠ -1 := fun e => (hg.dead s h1).1 e h2
/-- The row's cell of a byte's class is written. -/
theorem RowI.put {w : Nat} {a : DfaA} {g : List Int} {cur : Nat} {base order order2 : List Nat} {row : List Int} {c : Nat} {v : Int} (ha : DfaOk w a) (hg : GrpOk a g) (hc : c < 256) (h : RowI a g cur w base order row c)
    (hp : ∃ e, order2 = order ++ e) (ho : OrdB a g order2)
    (hv : (grpAt g (stepA a (cur : Int) c) = -1 ∧ v = -1) ∨ ∃ i t : Nat, v = (i : Int) ∧ order2[i]? = some t ∧ getI' g t = grpAt g (stepA a (cur : Int) c))
    (hn : ∀ i : Nat, order.length ≤ i → i < order2.length → v = (i : Int))
    (hf : ∀ t : Nat, v = (t : Int) → t ≤ order.length) : RowI a g cur w base order2 (row.set (clsA a c) v) (c + 1) := by
  obtain ⟨hcw, _⟩ := cls_lt ha hc
  have hold : ∀ (i t : Nat), order[i]? = some t → order2[i]? = some t := fun i t hi => by
    obtain ⟨e, he⟩ := hp
    rw [he, List.getElem?_append_left (List.getElem?_eq_some_iff.1 hi).1, hi]
  have hnew : (row.set (clsA a c) v)[clsA a c]? = some v := by rw [List.getElem?_set_self (by rw [h.len]; exact hcw)]
  have hsame : ∀ d, d < c → (row.set (clsA a c) v)[clsA a d]? = row[clsA a d]? := fun d hd => by
    by_cases e : clsA a c = clsA a d
    · rw [← e, hnew, e]
      have hst := step_cls (a := a) (s := (cur : Int)) e
      rcases h.at' d hd with ⟨h1, h2⟩ | ⟨i, t, h1, h2, h3⟩
      · rcases hv with ⟨h4, h5⟩ | ⟨j, u, h4, h5, h6⟩
        · rw [h2, h5]
        · rw [hst, h1] at h6
          have hm := List.mem_of_getElem? h5
          exact absurd h6 (grp_dead hg (ho.lt _ hm) (ho.live _ hm))
      · rcases hv with ⟨h4, h5⟩ | ⟨j, u, h4, h5, h6⟩
        · rw [← hst, h4] at h3
          have hm := List.mem_of_getElem? h2
          exact absurd h3 (grp_dead hg (h.ord.lt _ hm) (h.ord.live _ hm))
        · have := ho.uniq h5 (hold _ _ h2) (by rw [h6, h3, hst])
          rw [h1, h4, this]
    · rw [List.getElem?_set_ne e]
  obtain ⟨e1, he1⟩ := h.pre
  obtain ⟨e2, he2⟩ := hp
  have hlen : base.length ≤ order.length := by rw [he1]; simp
  refine ⟨⟨e1 ++ e2, by rw [he2, he1, List.append_assoc]⟩, by rw [List.length_set, h.len], ho, fun d hd => ?_, fun i hi1 hi2 => ?_, fun d t hd ht u hu1 hu2 => ?_⟩
  · by_cases e : d = c
    · subst e
      unfold RowV
      rw [hnew]
      rcases hv with ⟨h4, h5⟩ | ⟨j, u, h4, h5, h6⟩
      · exact .inl ⟨h4, by rw [h5]⟩
      · exact .inr ⟨j, u, by rw [h4], h5, h6⟩
    · have hd : d < c := by omega
      unfold RowV
      rw [hsame d hd]
      rcases h.at' d hd with h1 | ⟨i, t, h1, h2, h3⟩
      · exact .inl h1
      · exact .inr ⟨i, t, h1, hold _ _ h2, h3⟩
  · by_cases e : i < order.length
    · obtain ⟨d, hd, hr⟩ := h.new i hi1 e
      exact ⟨d, by omega, by rw [hsame d hd]; exact hr⟩
    · exact ⟨c, by omega, by rw [hnew, hn i (by omega) hi2]⟩
  · by_cases e : d = c
    · subst e
      rw [hnew] at ht
      have htl := hf t (Option.some.inj ht)
      obtain ⟨x, hx, hr⟩ := h.new u hu1 (by omega)
      exact ⟨x, hx, by rw [hsame x hx]; exact hr⟩
    · have hd : d < c := by omega
      rw [hsame d hd] at ht
      obtain ⟨x, hx, hr⟩ := h.first d t hd ht u hu1 hu2
      exact ⟨x, hx, by rw [hsame x (by omega)]; exact hr⟩
theorem rowO_ok {w : Nat} {a : DfaA} {g : List Int} {cur : Nat} {base : List Nat} (ha : DfaOk w a) (hg : GrpOk a g) : ∀ (k c : Nat) (order : List Nat) (row : List Int), c + k ≤ 256 → RowI a g cur w base order row c → RowI a g cur w base (rowO a g cur k c order row).1 (rowO a g cur k c order row).2 (c + k)
  | 0, c, order, row, _, h => h
  | k + 1, c, order, row, hk, h => by
    rw [rowO, show c + (k + 1) = c + 1 + k by omega]
    have hc : c < 256 := by omega
    split
    · rename_i h0
      exact rowO_ok ha hg k (c + 1) _ _ (by omega) (h.put ha hg hc ⟨[], by simp⟩ h.ord (.inl ⟨h0, rfl⟩) (fun i h1 h2 => by omega) (fun t ht => by omega))
    · rename_i h0
      split
      · rename_i n hn
        obtain ⟨hlt, hkk, _⟩ := List.findIdx?_eq_some_iff_getElem.1 hn
        exact rowO_ok ha hg k (c + 1) _ _ (by omega) (h.put ha hg hc ⟨[], by simp⟩ h.ord (.inr ⟨n, order[n], rfl, List.getElem?_eq_getElem hlt, eq_of_beq hkk⟩) (fun i h1 h2 => by omega) (fun t ht => by omega))
      · rename_i hn
        rcases step_to ha (cur : Int) hc with h1 | ⟨t, h1, h2⟩
        · exact absurd (by rw [h1]; rfl) h0
        · have hgt : grpAt g (stepA a (cur : Int) c) = getI' g t := by rw [h1]; unfold grpAt; rw [if_pos (by omega), Int.toNat_natCast]
          have htn : (stepA a (cur : Int) c).toNat = t := by rw [h1]; rfl
          rw [htn]
          have hnm : getI' g t ∉ order.map (getI' g) := fun hm => by
            obtain ⟨s, hs, e⟩ := List.mem_map.1 hm
            have := List.findIdx?_eq_none_iff.1 hn s hs
            rw [hgt, e] at this
            simp at this
          have hlv : LiveA a t := Classical.byContradiction fun hl => h0 (by rw [hgt]; exact (hg.dead t h2).2 hl)
          refine rowO_ok ha hg k (c + 1) _ _ (by omega) (h.put ha hg hc ⟨[t], rfl⟩ ⟨?_, ?_, ?_, ?_⟩ (.inr ⟨order.length, t, rfl, by rw [List.getElem?_append_right (Nat.le_refl _), Nat.sub_self]; rfl, hgt.symm⟩) (fun i h3 h4 => by simp at h4; omega) (fun t ht => by omega))
          · rw [List.getElem?_append_left (List.getElem?_eq_some_iff.1 h.ord.zero).1]; exact h.ord.zero
          · intro s hs
            rcases List.mem_append.1 hs with hs | hs
            · exact h.ord.lt s hs
            · rw [List.mem_singleton] at hs; rw [hs]; exact h2
          · intro s hs
            rcases List.mem_append.1 hs with hs | hs
            · exact h.ord.live s hs
            · rw [List.mem_singleton] at hs; rw [hs]; exact hlv
          · rw [List.map_append]
            exact List.nodup_append.2 ⟨h.ord.nodup, by simp, fun x hx y hy e => by
              rw [List.map_singleton, List.mem_singleton] at hy; subst hy; subst e; exact hnm hx⟩
structure OrdI (a : DfaA) (g : List Int) (w : Nat) (order : List Nat) (next : List (List Int)) (acc : List Bool) : Prop where
  ord : OrdB a g order
  nlen : next.length ≤ order.length
  alen : acc.length = next.length
  row : ∀ (s : Nat) (r : List Int) (cur : Nat), next[s]? = some r → order[s]? = some cur → r.length = w ∧ ∀ c, c < 256 → RowV a g cur order r c
  acc : ∀ (s cur : Nat), s < next.length → order[s]? = some cur → acc[s]? = some (getB a.acc cur)
  met : ∀ u : Nat, 0 < u → u < order.length → ∃ (s c : Nat) (r : List Int), s < u ∧ c < 256 ∧ next[s]? = some r ∧ r[clsA a c]? = some (u : Int)
  first : ∀ (s c : Nat) (r : List Int) (t : Nat), next[s]? = some r → c < 256 → r[clsA a c]? = some (t : Int) → ∀ u : Nat, 0 < u → u < t → ∃ (s2 c2 : Nat) (r2 : List Int), Bef s2 c2 s c ∧ c2 < 256 ∧ next[s2]? = some r2 ∧ r2[clsA a c2]? = some (u : Int)
theorem width_is {w : Nat} {a : DfaA} (h : DfaOk w a) (hp : 0 < a.next.length) : widthA a = w := by
  unfold widthA
  rw [List.getElem?_eq_getElem hp]
  exact h.row _ (List.getElem_mem hp)
theorem ord_len {w : Nat} {a : DfaA} {g : List Int} {order : List Nat} (h : OrdB a g order) : order.length ≤ a.next.length := by
  have hn : order.Nodup := by
    have := h.nodup
    unfold List.Nodup at this ⊢
    rw [List.pairwise_map] at this
    exact this.imp fun {x y} hxy e => hxy (congrArg _ e)
  have := nodup_le hn (b := List.range a.next.length) (fun x hx => List.mem_range.2 (h.lt x hx))
  rwa [List.length_range] at this
theorem ordL_ok {w : Nat} {a : DfaA} {g : List Int} (ha : DfaOk w a) (hp : 0 < a.next.length) (hg : GrpOk a g) : ∀ (f : Nat) (order : List Nat) (next : List (List Int)) (acc : List Bool), OrdI a g w order next acc → a.next.length < f + next.length →
    OrdI a g w (ordL a g f order next acc).1 (ordL a g f order next acc).2.1 (ordL a g f order next acc).2.2 ∧ (ordL a g f order next acc).2.1.length = (ordL a g f order next acc).1.length
  | 0, order, next, acc, h, hf => by have := h.nlen; have := ord_len (w := w) h.ord; omega
  | f + 1, order, next, acc, h, hf => by
    rw [ordL]
    split
    · rename_i hn
      have := List.getElem?_eq_none_iff.1 hn
      exact ⟨h, by have := h.nlen; dsimp only; omega⟩
    · rename_i cur hcur
      have hr := rowO_ok (cur := cur) (base := order) ha hg 256 0 order (List.replicate w 0) (by omega) ⟨⟨[], by simp⟩, by simp, h.ord, fun d hd => by omega, fun i h1 h2 => by omega, fun d t hd => by omega⟩
      rw [width_is ha hp]
      rw [Nat.zero_add] at hr
      generalize rowO a g cur 256 0 order (List.replicate w 0) = R at *
      obtain ⟨order2, row2⟩ := R
      dsimp only at hr ⊢
      obtain ⟨e, he⟩ := hr.pre
      have hlt := (List.getElem?_eq_some_iff.1 hcur).1
      have hold : ∀ (i t : Nat), order[i]? = some t → order2[i]? = some t := fun i t hi => by
        rw [he, List.getElem?_append_left (List.getElem?_eq_some_iff.1 hi).1, hi]
      have hold2 : ∀ (i t : Nat), i < order.length → order2[i]? = some t → order[i]? = some t := fun i t h1 hi => by
        rw [he, List.getElem?_append_left h1] at hi; exact hi
      have hsn : (next ++ [row2])[next.length]? = some row2 := snoc_new _ _
      refine ordL_ok ha hp hg f order2 (next ++ [row2]) (acc ++ [getB a.acc cur]) ⟨hr.ord, ?_, by simp [h.alen], ?_, ?_, ?_, ?_⟩ (by simp; omega)
      · rw [he]; simp; omega
      · intro s r cs hs hcs
        rcases snoc_get hs with ⟨h1, h2⟩ | ⟨h1, h2⟩
        · obtain ⟨q1, q2⟩ := h.row s r cs h2 (hold2 s cs (by have := h.nlen; omega) hcs)
          refine ⟨q1, fun c hc => ?_⟩
          rcases q2 c hc with q | ⟨i, t, q3, q4, q5⟩
          · exact .inl q
          · exact .inr ⟨i, t, q3, hold _ _ q4, q5⟩
        · subst h1; subst h2
          have hcc := hold2 _ _ hlt hcs
          rw [hcur] at hcc; cases hcc
          exact ⟨hr.len, fun c hc => hr.at' c hc⟩
      · intro s cs hs hcs
        rw [List.length_append, List.length_singleton] at hs
        by_cases e1 : s < next.length
        · exact snoc_old (h.acc s cs e1 (hold2 s cs (by have := h.nlen; omega) hcs))
        · have e2 : s = next.length := by omega
          subst e2
          have hcc := hold2 _ _ hlt hcs
          rw [hcur] at hcc; cases hcc
          rw [← h.alen]; exact snoc_new _ _
      · intro u h0 h1
        by_cases e1 : u < order.length
        · obtain ⟨s, c, r, q1, q2, q3, q4⟩ := h.met u h0 e1
          exact ⟨s, c, r, q1, q2, snoc_old q3, q4⟩
        · obtain ⟨d, hd, hrd⟩ := hr.new u (by omega) h1
          exact ⟨next.length, d, row2, by omega, hd, hsn, hrd⟩
      · intro s c r t hs hc ht u hu1 hu2
        rcases snoc_get hs with ⟨h1, h2⟩ | ⟨h1, h2⟩
        · obtain ⟨s2, c2, r2, q1, q2, q3, q4⟩ := h.first s c r t h2 hc ht u hu1 hu2
          exact ⟨s2, c2, r2, q1, q2, snoc_old q3, q4⟩
        · subst h1; subst h2
          by_cases e1 : u < order.length
          · obtain ⟨s, c3, r3, q1, q2, q3, q4⟩ := h.met u hu1 e1
            exact ⟨s, c3, r3, .inl (List.getElem?_eq_some_iff.1 q3).1, q2, snoc_old q3, q4⟩
          · obtain ⟨e, he1, he2⟩ := hr.first c t hc ht u (by omega) hu2
            exact ⟨next.length, e, r, .inr ⟨rfl, he1⟩, by omega, hsn, he2⟩
/-- What an automaton made of groups is. -/
theorem quot_ok {w : Nat} {a : DfaA} {g : List Int} {order : List Nat} {next : List (List Int)} {acc : List Bool} (ha : DfaOk w a) (hs : SurA w a) (hg : GrpFin a g) (h : OrdI a g w order next acc) (hl : next.length = order.length) :
    DfaOk w ⟨a.cls, next, acc⟩ ∧ SurA w ⟨a.cls, next, acc⟩ ∧ (∀ (s c cur : Nat), order[s]? = some cur → c < 256 → (grpAt g (stepA a (cur : Int) c) = -1 ∧ stepA ⟨a.cls, next, acc⟩ (s : Int) c = -1) ∨ ∃ i t : Nat, stepA ⟨a.cls, next, acc⟩ (s : Int) c = (i : Int) ∧ order[i]? = some t ∧ getI' g t = grpAt g (stepA a (cur : Int) c)) := by
  have hstep : ∀ (s c : Nat) (r : List Int), next[s]? = some r → stepA ⟨a.cls, next, acc⟩ (s : Int) c = (r[clsA a c]?).getD (-1) := fun s c r hr => by
    unfold stepA
    have := (List.getElem?_eq_some_iff.1 hr).1
    rw [if_neg (by dsimp only; omega), Int.toNat_natCast]
    dsimp only
    rw [hr]; rfl
  refine ⟨⟨ha.cls, ha.low, h.alen, fun r hr => ?_, fun r hr z hz => ?_⟩, hs, fun s c cur hcur hc => ?_⟩
  · obtain ⟨s, hs1, e⟩ := List.getElem_of_mem hr
    have hs1 : s < next.length := hs1
    have hr2 : next[s]? = some r := by rw [List.getElem?_eq_getElem hs1]; exact congrArg some e
    exact (h.row s r (order[s]'(by omega)) hr2 (List.getElem?_eq_getElem (by omega))).1
  · obtain ⟨s, hs1, e⟩ := List.getElem_of_mem hr
    have hs1 : s < next.length := hs1
    have hr2 : next[s]? = some r := by rw [List.getElem?_eq_getElem hs1]; exact congrArg some e
    obtain ⟨q1, q2⟩ := h.row s r (order[s]'(by omega)) hr2 (List.getElem?_eq_getElem (by omega))
    obtain ⟨k, hk, e2⟩ := List.getElem_of_mem hz
    obtain ⟨c, hc, hcc⟩ := hs k (by omega)
    have hck : clsA a c = k := by unfold clsA; rw [hcc]; rfl
    rcases q2 c hc with ⟨_, q⟩ | ⟨i, t, q3, q4, _⟩
    · rw [hck, List.getElem?_eq_getElem hk, e2] at q
      exact .inl (Option.some.inj q)
    · rw [hck, List.getElem?_eq_getElem hk, e2] at q3
      have := (List.getElem?_eq_some_iff.1 q4).1
      have := Option.some.inj q3
      exact .inr ⟨by omega, by dsimp only; omega⟩
  · have hs1 : s < next.length := by have := (List.getElem?_eq_some_iff.1 hcur).1; omega
    obtain ⟨q1, q2⟩ := h.row s next[s] cur (List.getElem?_eq_getElem hs1) hcur
    have hst := hstep s c next[s] (List.getElem?_eq_getElem hs1)
    rcases q2 c hc with ⟨p, q⟩ | ⟨i, t, q3, q4, q5⟩
    · exact .inl ⟨p, by rw [hst, q]; rfl⟩
    · exact .inr ⟨i, t, by rw [hst, q3]; rfl, q4, q5⟩
theorem quot_res {w : Nat} {a : DfaA} {g : List Int} {order : List Nat} {next : List (List Int)} {acc : List Bool} (ha : DfaOk w a) (hs : SurA w a) (hg : GrpFin a g) (h : OrdI a g w order next acc) (hl : next.length = order.length) :
    ∀ (b : List UInt8) (s cur : Nat), order[s]? = some cur → resA ⟨a.cls, next, acc⟩ (s : Int) b = resA a (cur : Int) b
  | [], s, cur, hcur => by
    have hs1 : s < next.length := by have := (List.getElem?_eq_some_iff.1 hcur).1; omega
    unfold resA
    rw [List.foldl_nil, List.foldl_nil, ends_nat, ends_nat]
    show getB acc s = _
    unfold getB
    rw [h.acc s cur hs1 hcur]; rfl
  | c :: b, s, cur, hcur => by
    obtain ⟨_, _, q⟩ := quot_ok ha hs hg h hl
    have hc : c.toNat < 256 := UInt8.toNat_lt c
    rw [res_cons, res_cons]
    have hm := List.mem_of_getElem? hcur
    rcases q s c.toNat cur hcur hc with ⟨h1, h2⟩ | ⟨i, t, h1, h2, h3⟩
    · rw [h2, res_dead b (by omega)]
      rcases step_to ha (cur : Int) hc with h4 | ⟨u, h4, h5⟩
      · rw [h4, res_dead b (by omega)]
      · rw [h4] at h1 ⊢
        unfold grpAt at h1
        rw [if_pos (by omega), Int.toNat_natCast] at h1
        exact (not_live_res ((hg.ok.dead u h5).1 h1) b).symm
    · rw [h1, quot_res ha hs hg h hl b i t h2]
      have hmt := List.mem_of_getElem? h2
      have htl := h.ord.lt t hmt
      have hlv := h.ord.live t hmt
      rcases step_to ha (cur : Int) hc with h4 | ⟨u, h4, h5⟩
      · rw [h4] at h3
        exact absurd h3 (grp_dead hg.ok htl hlv)
      · rw [h4] at h3 ⊢
        unfold grpAt at h3
        rw [if_pos (by omega), Int.toNat_natCast] at h3
        have hlu : LiveA a u := Classical.byContradiction fun hn => grp_dead hg.ok htl hlv (by rw [h3]; exact (hg.ok.dead u h5).2 hn)
        exact (hg.iff t u htl h5 hlv hlu).1 h3 b
/-- THE LEAST AUTOMATON. -/
theorem least_canon {w : Nat} {a : DfaA} (ha : DfaOk w a) (hs : SurA w a) (hp : 0 < a.next.length) (hl : LiveA a 0) :
    (∃ v, Canon v (leastA a) ∧ v ≤ 256) ∧ (∀ b, resA (leastA a) 0 b = resA a 0 b) ∧ (leastA a).next.length ≤ a.next.length := by
  have hg := grp_fin ha hs
  unfold leastA
  rw [if_neg (by intro e; rw [e] at hp; cases hp), if_neg (grp_dead hg.ok hp hl)]
  obtain ⟨h, hlen⟩ := ordL_ok ha hp hg.ok (a.next.length + 1) [0] [] [] ⟨⟨rfl, (fun s hs => by rw [List.mem_singleton] at hs; rw [hs]; exact hp), (fun s hs => by rw [List.mem_singleton] at hs; rw [hs]; exact hl), by simp⟩, by simp, rfl, (fun s r cur hs => by simp at hs), (fun s cur hs => by simp at hs), (fun u h0 h1 => by simp at h1; omega), fun s c r t hs => by simp at hs⟩ (by simp)
  generalize ordL a (grpA a) (a.next.length + 1) [0] [] [] = R at *
  obtain ⟨order, next, acc⟩ := R
  dsimp only at h hlen ⊢
  obtain ⟨q1, q2, q3⟩ := quot_ok ha hs hg h hlen
  have q4 := quot_res ha hs hg h hlen
  have hzl := (List.getElem?_eq_some_iff.1 h.ord.zero).1
  have hol := ord_len (w := w) h.ord
  have hat : ∀ s, s < next.length → order[s]? = some (order[s]?.getD 0) := fun s hs => by rw [List.getElem?_eq_getElem (by omega)]; rfl
  have hlv : ∀ s, s < next.length → LiveA ⟨a.cls, next, acc⟩ s := fun s hs => by
    obtain ⟨b, hb⟩ := h.ord.live _ (List.mem_of_getElem? (hat s hs))
    exact ⟨b, by rw [q4 b s _ (hat s hs)]; exact hb⟩
  have hdf : ∀ s t, s < next.length → t < next.length → (∀ b, resA ⟨a.cls, next, acc⟩ (s : Int) b = resA ⟨a.cls, next, acc⟩ (t : Int) b) → s = t := fun s t h1 h2 hr => by
    have m1 := List.mem_of_getElem? (hat s h1)
    have m2 := List.mem_of_getElem? (hat t h2)
    refine h.ord.uniq (hat s h1) (hat t h2) ((hg.iff _ _ (h.ord.lt _ m1) (h.ord.lt _ m2) (h.ord.live _ m1) (h.ord.live _ m2)).2 fun b => ?_)
    rw [← q4 b s _ (hat s h1), ← q4 b t _ (hat t h2), hr]
  have hst : ∀ (s c : Nat) (r : List Int) (t : Nat), next[s]? = some r → r[clsA a c]? = some (t : Int) → stepA ⟨a.cls, next, acc⟩ (s : Int) c = (t : Int) := fun s c r t h1 h2 => by
    have := (List.getElem?_eq_some_iff.1 h1).1
    unfold stepA
    rw [if_neg (by dsimp only; omega), Int.toNat_natCast]
    dsimp only
    rw [h1]
    show (r[clsA a c]?).getD (-1) = _
    rw [h2]; rfl
  have hst2 : ∀ (s c t : Nat), s < next.length → c < 256 → stepA ⟨a.cls, next, acc⟩ (s : Int) c = (t : Int) → ∃ r, next[s]? = some r ∧ r[clsA a c]? = some (t : Int) := fun s c t h1 hc h2 => by
    obtain ⟨k, r, p1, p2, p3, p4⟩ := step_at q1 (s := s) h1 hc
    refine ⟨r, p3, ?_⟩
    have : clsA a c = k := by unfold clsA; rw [show a.cls[c]? = some k from p1]; rfl
    rw [this, p4, h2]
  obtain ⟨v, hn, hv⟩ := narrow_ok q1 (by dsimp only; omega)
  generalize narrowA ⟨a.cls, next, acc⟩ = m at *
  have nl : m.next.length = next.length := hn.nlen
  have hres : ∀ (b : List UInt8) (s : Nat), s < next.length → resA m (s : Int) b = resA ⟨a.cls, next, acc⟩ (s : Int) b := by
    intro b
    induction b with
    | nil => intro s hs1; unfold resA; rw [List.foldl_nil, List.foldl_nil, ends_nat, ends_nat, hn.acc]
    | cons c b ih =>
      intro s hs1
      have hc : c.toNat < 256 := UInt8.toNat_lt c
      rw [res_cons, res_cons, hn.step s c.toNat hs1 hc]
      rcases step_to q1 (s : Int) hc with h4 | ⟨u, h4, h5⟩
      · rw [h4, res_dead b (by omega), res_dead b (by omega)]
      · rw [h4]; exact ih u h5
  refine ⟨⟨v, ⟨hn.ok, hn.sur, by omega, fun s hs1 => ?_, fun s t h1 h2 hr => ?_, fun t h0 h1 => ?_, fun s c t h1 hc h2 u hu1 hu2 => ?_, fun c d k hc hd hk => ?_, hn.first⟩, hv⟩, fun b => ?_, by omega⟩
  · obtain ⟨b, hb⟩ := hlv s (by omega)
    exact ⟨b, by rw [hres b s (by omega)]; exact hb⟩
  · exact hdf s t (by omega) (by omega) fun b => by rw [← hres b s (by omega), ← hres b t (by omega), hr]
  · obtain ⟨s, c, r, p1, p2, p3, p4⟩ := h.met t h0 (by omega)
    exact ⟨s, c, p1, p2, by rw [hn.step s c (List.getElem?_eq_some_iff.1 p3).1 p2]; exact hst s c r t p3 p4⟩
  · rw [hn.step s c (by dsimp only; omega) hc] at h2
    obtain ⟨r, p1, p2⟩ := hst2 s c t (by omega) hc h2
    obtain ⟨s2, c2, r2, p3, p4, p5, p6⟩ := h.first s c r t p1 hc p2 u hu1 hu2
    have hs2 := (List.getElem?_eq_some_iff.1 p5).1
    exact ⟨s2, c2, by omega, p4, p3, by rw [hn.step s2 c2 hs2 p4]; exact hst s2 c2 r2 u p5 p6⟩
  · rw [hn.like c d k hc hd hk]
    constructor
    · intro hx s hs1
      rw [hn.step s c (by dsimp only; omega) hc, hn.step s d (by dsimp only; omega) hd]; exact hx s (by dsimp only; omega)
    · intro hx s hs1
      have := hx s (by dsimp only at hs1; omega)
      rwa [hn.step s c hs1 hc, hn.step s d hs1 hd] at this
  · have h0 := hres b 0 (by omega)
    have h1 := q4 b 0 0 h.ord.zero
    exact h0.trans h1
theorem least_dead {w : Nat} {a : DfaA} (ha : DfaOk w a) (hs : SurA w a) (hp : 0 < a.next.length) (hl : ¬ LiveA a 0) : leastA a = deadA := by
  have hg := grp_fin ha hs
  unfold leastA
  rw [if_neg (by intro e; rw [e] at hp; cases hp), if_pos ((hg.ok.dead 0 hp).2 hl)]
theorem dead_ok : DfaOk 1 deadA := ⟨by simp [deadA], (fun k hk => by have := List.eq_of_mem_replicate hk; omega), rfl, (fun r hr => by rw [show r = [-1] by simpa [deadA] using hr]; rfl), fun r hr z hz => by rw [show r = [-1] by simpa [deadA] using hr, List.mem_singleton] at hz; exact .inl hz⟩
theorem dead_sur : SurA 1 deadA := fun k hk => ⟨0, by omega, by rw [show k = 0 by omega]; rfl⟩
theorem dead_not : ¬ LiveA deadA 0 := fun ⟨b, hb⟩ => by
  cases b with
  | nil => cases hb
  | cons c b =>
    rw [res_cons] at hb
    have : stepA deadA ((0 : Nat) : Int) c.toNat = -1 := by
      rcases step_to dead_ok ((0 : Nat) : Int) (UInt8.toNat_lt c) with h | ⟨t, h, h2⟩
      · exact h
      · obtain ⟨k, r, p1, p2, p3, p4⟩ := step_at dead_ok (s := 0) (by decide) (UInt8.toNat_lt c)
        have hr : r = [-1] := by simpa [deadA] using p3.symm
        have hk : k = 0 := by omega
        rw [hr, hk] at p4
        exact (Option.some.inj p4).symm
    rw [this, res_dead b (by omega)] at hb; cases hb
/-- Made least again, it is the same. -/
theorem least_again {w : Nat} {a : DfaA} (ha : DfaOk w a) (hs : SurA w a) (hp : 0 < a.next.length) : leastA (leastA a) = leastA a := by
  by_cases hl : LiveA a 0
  · obtain ⟨⟨v, hc, _⟩, hr, _⟩ := least_canon ha hs hp hl
    obtain ⟨⟨v2, hc2, _⟩, hr2, _⟩ := least_canon hc.ok hc.sur hc.pos (hc.live 0 hc.pos)
    exact canon_unique hc2 hc hr2
  · rw [least_dead ha hs hp hl]
    exact least_dead dead_ok dead_sur (by decide) dead_not
end Go.Proofs.YtinbmhbfcoiefaaGreatDoor
end
section
/- What the automata of an expression stand for. No program in sight. -/
namespace Go.Proofs.YtinbmhbfcoiefaaGreatDoor
open Go Go.E
set_option linter.unusedVariables false
set_option maxRecDepth 10000
/-- What is known of an automaton that is made. -/
structure MadeA (d : DfaA) : Prop where
  ok : ∃ w, w ≤ 256 ∧ DfaOk w d ∧ SurA w d
  pos : 0 < d.next.length
  le : d.next.length ≤ 1024
/-- What is known of a least automaton. -/
structure LeastA (d : DfaA) : Prop where
  ok : ∃ w, w ≤ 256 ∧ DfaOk w d ∧ SurA w d ∧ (∀ c e k, c < 256 → e < 256 → d.cls[c]? = some k → (d.cls[e]? = some k ↔ ∀ s : Nat, s < d.next.length → stepA d (s : Int) c = stepA d (s : Int) e)) ∧ (∀ c k, c < 256 → d.cls[c]? = some k → ∀ j, j < k → ∃ e, e < c ∧ d.cls[e]? = some j)
  pos : 0 < d.next.length
  le : d.next.length ≤ 1024
  again : leastA d = d
  diff : ∀ s t, s < d.next.length → t < d.next.length → (∀ b, resA d (s : Int) b = resA d (t : Int) b) → s = t
  lives : d.next.length = 1 ∨ ((∀ s, s < d.next.length → LiveA d s) ∧ ∀ t, 0 < t → t < d.next.length → ∃ s c, s < t ∧ c < 256 ∧ stepA d (s : Int) c = (t : Int))
theorem MadeA.least {a : DfaA} (h : MadeA a) : LeastA (leastA a) ∧ (∀ b, matchA (leastA a) b = matchA a b) ∧ (leastA a).next.length ≤ a.next.length := by
  obtain ⟨⟨w, hw, ha, hs⟩, hp, hle⟩ := h
  have hag := least_again ha hs hp
  by_cases hl : LiveA a 0
  · obtain ⟨⟨v, hc, hv⟩, hr, hn⟩ := least_canon ha hs hp hl
    refine ⟨⟨⟨v, hv, hc.ok, hc.sur, hc.like, hc.first⟩, hc.pos, by omega, hag, hc.diff, .inr ⟨hc.live, hc.met⟩⟩, fun b => ?_, hn⟩
    rw [res_match, res_match]; exact hr b
  · rw [least_dead ha hs hp hl] at hag ⊢
    refine ⟨⟨⟨1, by decide, dead_ok, dead_sur, fun c e k hc he hk => ?_, fun c k hc hk j hj => ?_⟩, by decide, by decide, hag, fun s t h1 h2 _ => by have h1 : s < 1 := h1; have h2 : t < 1 := h2; omega, .inl rfl⟩, fun b => ?_, hp⟩
    · have h0 : ∀ x, x < 256 → deadA.cls[x]? = some 0 := fun x hx => by
        show (List.replicate 256 0)[x]? = some 0
        rw [List.getElem?_replicate, if_pos hx]
      rw [h0 c hc] at hk
      rw [h0 e he]
      refine ⟨fun _ s _ => step_cls (by unfold clsA; rw [h0 c hc, h0 e he]), fun _ => hk⟩
    · have := dead_ok.low k (List.mem_of_getElem? hk)
      omega
    · rw [res_match, res_match]
      rw [show resA deadA 0 b = false from not_live_res dead_not b, show resA a 0 b = false from not_live_res hl b]
/-! The document's answer: at which places an expression may end. -/
end Go.Proofs.YtinbmhbfcoiefaaGreatDoor
end
section
/- Maps whose keys are texts, arrays or structs. No program in sight. -/
namespace Go.E
open Go
set_option linter.unusedVariables false
set_option linter.unusedSimpArgs false
set_option linter.unusedSectionVars false
/-- How keys of a sort are told: so that a map finds them. -/
structure KeyEnc (P : Program) (kt : TypeId) {κ : Type} (kv : κ → Value) (ok : κ → Prop) : Prop where
  check : ∀ k, ok k → ∀ (w : World) (em : Bool), (Instr.checkKey em 10000 kt (kv k)).run P w = .ok () w
  search : ∀ (w : World) (k : κ), ok k → ∀ es : List MapEntry, (∀ e ∈ es, ∃ j, ok j ∧ e.key = kv j) → ((Instr.findKey kt (kv k) es).run P w = .ok none w ∧ ∀ e ∈ es, e.key ≠ kv k) ∨ ∃ j e, (Instr.findKey kt (kv k) es).run P w = .ok (some (j, e.val)) w ∧ es[j]? = some e ∧ e.key = kv k
  stays : ∀ k, ok k → ∀ w : World, (Instr.keyThatStays (kv k) (kv k)).run P w = .ok (kv k) w
  inj : ∀ a b, kv a = kv b → a = b
theorem KeyEnc.ofLaw {P : Program} {kt : TypeId} {κ : Type} {kv : κ → Value} {ok : κ → Prop} (law : WideMaps.KeyLaw P kt) (is : ∀ k, ok k → ∃ l, keyOf P kt (kv k) = some l) (inj : ∀ a b, kv a = kv b → a = b) : KeyEnc P kt kv ok where
  check k hk w em := by obtain ⟨l, hl⟩ := is k hk; exact law.check w em hl
  search w k hk es he := by
    obtain ⟨l, hl⟩ := is k hk
    exact law.find w hl es fun e h => by
      obtain ⟨j, hj, e2⟩ := he e h
      rw [e2]; exact is j hj
  stays k hk w := by obtain ⟨l, hl⟩ := is k hk; exact law.stays w hl
  inj := inj
section
variable {κ ν : Type}
def entG (kv : κ → Value) (vv : ν → Value) (p : κ × ν × Nat) : MapEntry := { key := kv p.1, val := vv p.2.1, born := p.2.2 }
def mapG (kv : κ → Value) (vv : ν → Value) (l : List (κ × ν × Nat)) (c : Nat) : Obj := .map (l.map (entG kv vv)).toArray c
structure MapOk (ok : κ → Prop) (l : List (κ × ν × Nat)) : Prop where
  nodup : (l.map (·.1)).Nodup
  all : ∀ p ∈ l, ok p.1
variable [DecidableEq κ]
def getG : List (κ × ν × Nat) → κ → Option ν
  | [], _ => none
  | p :: r, k => if k = p.1 then some p.2.1 else getG r k
def putG : List (κ × ν × Nat) → Nat → κ → ν → List (κ × ν × Nat)
  | [], c, k, v => [(k, v, c)]
  | p :: r, c, k, v => if k = p.1 then (k, v, p.2.2) :: r else p :: putG r c k v
theorem get_none : ∀ {l : List (κ × ν × Nat)} {k : κ}, (∀ p ∈ l, p.1 ≠ k) → getG l k = none ∧ ∀ c v, putG l c k v = l ++ [(k, v, c)]
  | [], k, h => ⟨rfl, fun _ _ => rfl⟩
  | p :: r, k, h => by
    have hp : ¬ k = p.1 := fun e => h p (by simp) e.symm
    obtain ⟨h1, h2⟩ := get_none (l := r) (k := k) (fun q hq => h q (by simp [hq]))
    exact ⟨by rw [getG, if_neg hp]; exact h1, fun c v => by rw [putG, if_neg hp, h2]; rfl⟩
theorem get_at : ∀ {l : List (κ × ν × Nat)} {j : Nat} {p : κ × ν × Nat}, (l.map (·.1)).Nodup → l[j]? = some p → getG l p.1 = some p.2.1 ∧ ∀ c v, putG l c p.1 v = l.set j (p.1, v, p.2.2)
  | [], j, p, hn, h => by simp at h
  | q :: r, 0, p, hn, h => by
    simp at h; subst h
    exact ⟨by rw [getG, if_pos rfl], fun c v => by rw [putG, if_pos rfl]; rfl⟩
  | q :: r, j + 1, p, hn, h => by
    have hn2 : q.1 ∉ r.map (·.1) ∧ (r.map (·.1)).Nodup := by simpa using hn
    have h : r[j]? = some p := by simpa using h
    have hne : ¬ p.1 = q.1 := fun e => hn2.1 (e ▸ List.mem_map_of_mem (List.mem_of_getElem? h))
    obtain ⟨h1, h2⟩ := get_at hn2.2 h
    exact ⟨by rw [getG, if_neg hne]; exact h1, fun c v => by rw [putG, if_neg hne, h2]; rfl⟩
theorem put_mem : ∀ {l : List (κ × ν × Nat)} {c : Nat} {k : κ} {v : ν} {p : κ × ν × Nat}, p ∈ putG l c k v → p.1 = k ∨ p ∈ l
  | [], c, k, v, p, h => by simp [putG] at h; exact .inl (by rw [h])
  | q :: r, c, k, v, p, h => by
    rw [putG] at h
    split at h
    · rcases List.mem_cons.1 h with rfl | h
      · exact .inl rfl
      · exact .inr (by simp [h])
    · rcases List.mem_cons.1 h with rfl | h
      · exact .inr (by simp)
      · rcases put_mem h with h | h
        · exact .inl h
        · exact .inr (by simp [h])
theorem MapOk.put {ok : κ → Prop} {l : List (κ × ν × Nat)} (h : MapOk ok l) {k : κ} (hk : ok k) (c : Nat) (v : ν) : MapOk ok (putG l c k v) := by
  refine ⟨?_, fun p hp => ?_⟩
  · obtain ⟨hn, ha⟩ := h
    clear ha
    induction l with
    | nil => simp [putG]
    | cons q r ih =>
      have hn2 : q.1 ∉ r.map (·.1) ∧ (r.map (·.1)).Nodup := by simpa using hn
      rw [putG]
      split
      · rename_i e; subst e; simpa using hn
      · rename_i e
        rw [List.map_cons, List.nodup_cons]
        refine ⟨fun hmo => ?_, ih hn2.2⟩
        obtain ⟨p, hp, hpe⟩ := List.mem_map.1 hmo
        rcases put_mem hp with h | h
        · exact e (h.symm.trans hpe)
        · exact hn2.1 (hpe ▸ List.mem_map_of_mem h)
  · rcases put_mem hp with e | hp
    · rw [e]; exact hk
    · exact h.all p hp
theorem MapOk.nil {ok : κ → Prop} : MapOk ok ([] : List (κ × ν × Nat)) := ⟨by simp, by simp⟩
theorem getG_putG {l : List (κ × ν × Nat)} {c : Nat} {k j : κ} {v : ν} : getG (putG l c k v) j = if j = k then some v else getG l j := by
  induction l with
  | nil => simp only [putG, getG]
  | cons p r ih =>
    unfold putG
    split
    · rename_i h
      simp only [getG]
      by_cases hj : j = k
      · simp [hj]
      · rw [if_neg hj, if_neg hj, if_neg (fun e => hj (e.trans h.symm))]
    · rename_i h
      simp only [getG]
      rw [ih]
      by_cases hj : j = p.1
      · rw [if_pos hj, if_pos hj, if_neg (fun e => h (e.symm.trans hj))]
      · rw [if_neg hj, if_neg hj]
variable {P : Program} {T : TT} [hT : TTab P T] {ty : TypeId} {env : Env} {ro : Ro} {own : Chs} {K : Value → Ro → Chs → Prop} {kt : TypeId} {kv : κ → Value} {vv : ν → Value} {ok : κ → Prop}
theorem KeyEnc.find (E : KeyEnc P kt kv ok) {l : List (κ × ν × Nat)} (hmo : MapOk ok l) {k : κ} (hk : ok k) (w : World) :
    ((Instr.findKey kt (kv k) (l.map (entG kv vv))).run P w = .ok none w ∧ getG l k = none ∧ ∀ c v, putG l c k v = l ++ [(k, v, c)]) ∨
    ∃ (j : Nat) (p : κ × ν × Nat), (Instr.findKey kt (kv k) (l.map (entG kv vv))).run P w = .ok (some (j, vv p.2.1)) w ∧ l[j]? = some p ∧ p.1 = k ∧ getG l k = some p.2.1 ∧ ∀ c v, putG l c k v = l.set j (k, v, p.2.2) := by
  rcases E.search w k hk (l.map (entG kv vv)) (fun e he => by
    obtain ⟨p, hp, rfl⟩ := List.mem_map.1 he
    exact ⟨p.1, hmo.all p hp, rfl⟩) with ⟨h1, h2⟩ | ⟨j, e, h1, h2, h3⟩
  · obtain ⟨g1, g2⟩ := get_none (l := l) (k := k) (fun p hp e => h2 (entG kv vv p) (List.mem_map_of_mem hp) (congrArg kv e))
    exact .inl ⟨h1, g1, g2⟩
  · rw [List.getElem?_map] at h2
    obtain ⟨p, hp, rfl⟩ := Option.map_eq_some_iff.1 h2
    obtain rfl := E.inj _ _ h3
    obtain ⟨g1, g2⟩ := get_at hmo.nodup hp
    exact .inr ⟨j, p, h1, hp, rfl, g1, g2⟩
theorem OpOk.lookupG {t et : TypeId} {x y : Operand} {b c : Nat} {k : κ} {l : List (κ × ν × Nat)} {z : Value} {f : Chunk → Chs} (hx : ev env x = some (.map (some b))) (hy : ev env y = some (kv k)) (ht : P.underlying t = some (.map kt et))
    (E : KeyEnc P kt kv ok) (hmo : MapOk ok l) (hkk : ok k) (hz : (P.info? et).map (fun i => i.zero) = some (some z)) [hb : HasObj own b (mapG kv vv l c) f] (hk : K (((getG l k).map vv).getD z) ro own) : OpOk P (.lookup t x y false) ty env ro own K :=
  OpOk.pu (fun h hs d pos af g => .mk fun ρ w hρ hw => by
    have hg : h[b]? = some (.map (l.map (entG kv vv)).toArray c) := (hb.repl (.obj 0 default)).get hs
    subst hw
    obtain ⟨i, hi, hi2⟩ := Option.map_eq_some_iff.1 hz
    have hc := fun em => E.check k hkk w em
    rcases E.find (vv := vv) hmo hkk w with ⟨h1, h2, h3⟩ | ⟨j, q, h1, h2, h3, h4, h5⟩
    · rw [h2]
      simp [execOp, hρ _ _ hx, hρ _ _ hy, Instr.lookup, run_underlying ht, MapKept.run_getObj_map hg, hc, h1, zeroValue, typeInfo, hi, hi2, Result.andThen]
    · rw [h4]
      simp [execOp, hρ _ _ hx, hρ _ _ hy, Instr.lookup, run_underlying ht, MapKept.run_getObj_map hg, hc, h1, Result.andThen]) hk
theorem OpOk.lookupOkG {t et : TypeId} {x y : Operand} {b c : Nat} {k : κ} {l : List (κ × ν × Nat)} {z : Value} {f : Chunk → Chs} (hx : ev env x = some (.map (some b))) (hy : ev env y = some (kv k)) (ht : P.underlying t = some (.map kt et))
    (E : KeyEnc P kt kv ok) (hmo : MapOk ok l) (hkk : ok k) (hz : (P.info? et).map (fun i => i.zero) = some (some z)) [hb : HasObj own b (mapG kv vv l c) f] (hk : K (.tuple #[((getG l k).map vv).getD z, .bool (getG l k).isSome]) ro own) : OpOk P (.lookup t x y true) ty env ro own K :=
  OpOk.pu (fun h hs d pos af g => .mk fun ρ w hρ hw => by
    have hg : h[b]? = some (.map (l.map (entG kv vv)).toArray c) := (hb.repl (.obj 0 default)).get hs
    subst hw
    obtain ⟨i, hi, hi2⟩ := Option.map_eq_some_iff.1 hz
    have hc := fun em => E.check k hkk w em
    rcases E.find (vv := vv) hmo hkk w with ⟨h1, h2, h3⟩ | ⟨j, q, h1, h2, h3, h4, h5⟩
    · rw [h2]
      simp [execOp, hρ _ _ hx, hρ _ _ hy, Instr.lookup, run_underlying ht, MapKept.run_getObj_map hg, hc, h1, zeroValue, typeInfo, hi, hi2, Result.andThen]
    · rw [h4]
      simp [execOp, hρ _ _ hx, hρ _ _ hy, Instr.lookup, run_underlying ht, MapKept.run_getObj_map hg, hc, h1, Result.andThen]) hk
theorem OpOk.mapUpdateG {t et : TypeId} {x y z : Operand} {b c : Nat} {k : κ} {v : ν} {l : List (κ × ν × Nat)} {f : Chunk → Chs} (hx : ev env x = some (.map (some b))) (hy : ev env y = some (kv k)) (hz : ev env z = some (vv v)) (ht : P.underlying t = some (.map kt et))
    (E : KeyEnc P kt kv ok) (hmo : MapOk ok l) (hkk : ok k) [hb : HasObj own b (mapG kv vv l c) f] (hk : ∀ c', K undef ro (f (.obj b (mapG kv vv (putG l c k v) c')))) : OpOk P (.mapUpdate t x y z) ty env ro own K :=
  ⟨fun h hs d pos af g => ⟨fun ρ w hρ hw => by
    have hg : h[b]? = some (.map (l.map (entG kv vv)).toArray c) := (hb.repl (.obj 0 default)).get hs
    subst hw
    have hc := fun em => E.check k hkk w em
    have hst := E.stays k hkk w
    have key : ∃ c', (execOp ρ ⟨d, .mapUpdate t x y z, ty, pos, af, g⟩).run P w = .ok .skip { w with heap := w.heap.setIfInBounds b (mapG kv vv (putG l c k v) c') } := by
      rcases E.find (vv := vv) hmo hkk w with ⟨h1, h2, h3⟩ | ⟨j, q, h1, h2, h3, h4, h5⟩
      · refine ⟨c + 1, ?_⟩
        have e : mapG kv vv (putG l c k v) (c + 1) = .map ((l.map (entG kv vv)).toArray.push { key := kv k, val := vv v, born := c }) (c + 1) := by
          rw [h3]; simp [mapG, entG]
        rw [e]
        simp [execOp, hρ _ _ hx, hρ _ _ hy, hρ _ _ hz, Instr.mapUpdate, run_underlying ht, MapKept.run_getObj_map hg, MapKept.run_setObj_map _ hg, hc, h1, Result.andThen]
      · refine ⟨c, ?_⟩
        have hj : (l.map (entG kv vv)).toArray[j]? = some (entG kv vv q) := by simp [h2]
        have e : mapG kv vv (putG l c k v) c = .map ((l.map (entG kv vv)).toArray.modify j fun e => { e with key := kv k, val := vv v }) c := by
          rw [h5]
          refine congrArg (fun z => Obj.map z c) ?_
          apply Array.ext'
          rw [Array.toList_modify]
          apply List.ext_getElem?
          intro i
          by_cases hij : j = i
          · subst hij
            have hlt : j < l.length := (List.getElem?_eq_some_iff.1 h2).1
            have hq := (List.getElem?_eq_some_iff.1 h2).2
            simp [List.getElem?_set, hlt, List.getElem?_modify, entG, hq]
          · simp [List.getElem?_set, hij, List.getElem?_modify]
        rw [e]
        have hq : (entG kv vv q).key = kv k := by rw [← h3]; rfl
        simp [execOp, hρ _ _ hx, hρ _ _ hy, hρ _ _ hz, Instr.mapUpdate, run_underlying ht, MapKept.run_getObj_map hg, MapKept.run_setObj_map _ hg, hc, h1, Result.andThen, h2, hq, hst]
    obtain ⟨c', key⟩ := key
    obtain ⟨r, p1, p2⟩ := (hb.repl (.obj b (mapG kv vv (putG l c k v) c'))).perm
    have hsat := hs.perm p1
    have hlt : b < w.heap.size := by
      rcases Nat.lt_or_ge b w.heap.size with h | h
      · exact h
      · rw [Array.getElem?_eq_none h] at hg; cases hg
    refine ⟨undef, _, .inr ⟨key, rfl⟩, ⟨rfl, rfl, rfl, rfl⟩, ro, _, Le.refl _, (hsat.put (c' := .obj b (mapG kv vv (putG l c k v) c')) (fun i _ hi => ?_) ?_ (fun k hk => .inl hk) (by simp [Chunk.fp])).perm p2.symm, hk c'⟩
    · have : b ≠ i := by simpa [Chunk.fp, eq_comm] using hi
      simp [Array.getElem?_setIfInBounds, this]
    · simp [Chunk.holds, hm, hlt]⟩⟩
/-- A map is made. -/
theorem OpOk.makeMapG {t : TypeId} (hk : ∀ b, K (.map (some b)) ro (.obj b (mapG kv vv ([] : List (κ × ν × Nat)) 0) :: own)) : OpOk P (.makeMap t none) ty env ro own K := OpOk.makeMap hk
/-- A map's literal puts in as a map does. -/
theorem OpOk.insertG {t : TypeId} {x y z : Operand} (h : OpOk P (.mapUpdate t x y z) ty env ro own K) : OpOk P (.insert t x y z) ty env ro own K :=
  ⟨fun g hs d pos af gd => ⟨fun ρ w hρ hw => (h.run g hs d pos af gd).run ρ w hρ hw⟩⟩
/-- How many keys a map has. -/
theorem OpOk.lenG {t et : TypeId} {x : Operand} {b c : Nat} {l : List (κ × ν × Nat)} {f : Chunk → Chs} (hx : ev env x = some (.map (some b))) (ht : P.underlying t = some (.map kt et))
    [hb : HasObj own b (mapG kv vv l c) f] (hk : K (.int .i64 (l.length : Int)) ro own) : OpOk P (.call ⟨.builtin .len, #[x], #[t]⟩) ty env ro own K :=
  OpOk.pu (fun h hs d pos af g => .mk fun ρ w hρ hw => by
    have hg : h[b]? = some (.map (l.map (entG kv vv)).toArray c) := (hb.repl (.obj 0 default)).get hs
    subst hw
    simp [execOp, resolve, invoke, builtin, hρ _ _ hx, Builtin.len_, run_underlying ht, MapKept.run_getObj_map hg, Result.andThen, goInt]) hk
end
theorem KeyEnc.text {P : Program} {kt : TypeId} (hk : P.underlying kt = some .string) : KeyEnc P kt str (fun l => l.length ≤ maxLen) :=
  KeyEnc.ofLaw (WideMaps.string_law hk) (fun l h => ⟨_, WideMaps.keyOf_string_mk hk (by simpa [ByteArray.size] using h)⟩) (fun a b h => by
    have h2 : ByteArray.mk a.toArray = ByteArray.mk b.toArray := by injection h
    have h3 : a.toArray = b.toArray := by injection h2
    exact congrArg Array.toList h3)
theorem KeyEnc.int {P : Program} {kt : TypeId} (hk : P.underlying kt = some (.int .i64)) : KeyEnc P kt (Value.int .i64) (fun _ => True) where
  check k _ w em := MapKept.run_checkKey hk (d := .int .i64) (k := .int .i64 k) rfl em 9999
  search w k _ es he := by
    rcases MapKept.findNow_spec (d := .int .i64) (k := .int .i64 k) rfl es 0 (fun x hx => by
      obtain ⟨j, _, e⟩ := he x hx
      rw [e]; rfl) with ⟨h1, h2⟩ | ⟨j, e0, h1, h2, h3⟩
    · exact .inl ⟨MapKept.run_findKey hk h1, h2⟩
    · exact .inr ⟨j, e0, by simpa using MapKept.run_findKey hk h1, h2, h3⟩
  stays k _ w := MapKept.run_keyThatStays (d := .int .i64) (k := .int .i64 k) rfl
  inj a b h := by injection h
end Go.E
end
section
/- Lists of numbers as texts, and maps that are keyed by them; the states that live, found in place. No program in sight. -/
namespace Go.Proofs.YtinbmhbfcoiefaaGreatDoor
open Go Go.E
set_option linter.unusedVariables false
set_option linter.unusedSimpArgs false
set_option maxRecDepth 10000
/-! Lists as texts. -/
def keyT (l : List Int) : List UInt8 := l.flatMap fun z => [UInt8.ofNat (z.toNat / 256), UInt8.ofNat z.toNat]
def AdmK (l : List Int) : Prop := ∀ z ∈ l, 0 ≤ z ∧ z < 65536
theorem keyT_cons (z : Int) (l : List Int) : keyT (z :: l) = UInt8.ofNat (z.toNat / 256) :: UInt8.ofNat z.toNat :: keyT l := rfl
theorem keyT_snoc (l : List Int) (z : Int) : keyT (l ++ [z]) = keyT l ++ [UInt8.ofNat (z.toNat / 256), UInt8.ofNat z.toNat] := by
  unfold keyT; rw [List.flatMap_append]; simp
theorem keyT_len : ∀ l : List Int, (keyT l).length = 2 * l.length
  | [] => rfl
  | z :: l => by rw [keyT_cons, List.length_cons, List.length_cons, keyT_len l, List.length_cons]; omega
theorem keyT_inj : ∀ {l m : List Int}, AdmK l → AdmK m → keyT l = keyT m → l = m
  | [], [], _, _, _ => rfl
  | [], z :: m, _, _, h => by rw [keyT_cons] at h; cases h
  | z :: l, [], _, _, h => by rw [keyT_cons] at h; cases h
  | x :: l, y :: m, h1, h2, h => by
    rw [keyT_cons, keyT_cons] at h
    injection h with a1 h
    injection h with a2 h
    have e1 := congrArg UInt8.toNat a1
    have e2 := congrArg UInt8.toNat a2
    rw [UInt8.toNat_ofNat', UInt8.toNat_ofNat'] at e1 e2
    have hx := h1 x (by simp)
    have hy := h2 y (by simp)
    have : x = y := by omega
    rw [this, keyT_inj (fun z hz => h1 z (by simp [hz])) (fun z hz => h2 z (by simp [hz])) h]
/-- A map that numbers lists, in the order in which they came. -/
structure KeyM (W : Nat) (seen : List (List Int)) (M : List (List UInt8 × Nat × Nat)) : Prop where
  map : MapOk (fun l => l.length ≤ maxLen) M
  len : M.length = seen.length
  adm : ∀ l ∈ seen, AdmK l ∧ l.length ≤ W
  at' : ∀ l, AdmK l → getG M (keyT l) = seen.idxOf? l
theorem put_len {κ ν : Type} [DecidableEq κ] : ∀ {l : List (κ × ν × Nat)} {c : Nat} {k : κ} {v : ν}, getG l k = none → (putG l c k v).length = l.length + 1
  | [], c, k, v, _ => rfl
  | p :: r, c, k, v, h => by
    rw [getG] at h
    split at h
    · cases h
    · rename_i hn
      rw [putG, if_neg hn, List.length_cons, put_len h, List.length_cons]
theorem KeyM.nil (W : Nat) : KeyM W [] [] := ⟨MapOk.nil, rfl, (fun l h => by cases h), fun l _ => rfl⟩
theorem idx_snoc (s : List (List Int)) (l x : List Int) : (s ++ [l]).idxOf? x = (s.idxOf? x).or (if x = l then some s.length else none) := by
  unfold List.idxOf?
  rw [List.findIdx?_append, List.findIdx?_cons]
  by_cases e : x = l
  · subst e; simp
  · have : (l == x) = false := by simpa using fun h => e h.symm
    rw [this, if_neg e]; simp
theorem KeyM.push {W : Nat} {seen : List (List Int)} {M : List (List UInt8 × Nat × Nat)} (h : KeyM W seen M) (hW : W ≤ 1000000) {l : List Int} (ha : AdmK l) (hl : l.length ≤ W) (hn : seen.idxOf? l = none) (c : Nat) : KeyM W (seen ++ [l]) (putG M c (keyT l) seen.length) := by
  have hg := h.at' l ha
  rw [hn] at hg
  refine ⟨h.map.put (by rw [keyT_len]; unfold maxLen; omega) c _, by rw [put_len hg, h.len]; simp, fun x hx => ?_, fun x hx => ?_⟩
  · rcases List.mem_append.1 hx with hx | hx
    · exact h.adm x hx
    · rw [List.mem_singleton] at hx; rw [hx]; exact ⟨ha, hl⟩
  · rw [getG_putG]
    rw [idx_snoc]
    by_cases e : x = l
    · subst e
      rw [if_pos rfl, hn, if_pos rfl]; rfl
    · rw [if_neg (fun h2 => e (keyT_inj hx ha h2)), h.at' x hx, if_neg e]
      cases seen.idxOf? x <;> rfl
/-! The states that live. -/
theorem getB_ext {m n : List Bool} (hl : m.length = n.length) (h : ∀ i, getB m i = true ↔ getB n i = true) : m = n := by
  apply List.ext_getElem hl
  intro i h1 h2
  have := h i
  unfold getB at this
  rw [List.getElem?_eq_getElem h1, List.getElem?_eq_getElem h2] at this
  simp only [Option.getD_some] at this
  cases ha : m[i] <;> cases hb : n[i] <;> simp_all
theorem liveA_len {w : Nat} {a : DfaA} (h : DfaOk w a) : (liveA a).length = a.next.length := live_len _ _ h.acc
theorem liveA_closed {w : Nat} {a : DfaA} (h : DfaOk w a) : ClosedA a (liveA a) := live_closed _ _ h.acc (.inr (by omega))
theorem liveA_acc {w : Nat} {a : DfaA} (h : DfaOk w a) (i : Nat) (hi : getB a.acc i = true) : getB (liveA a) i = true := live_keeps _ _ h.acc i hi
theorem alive_fin {w : Nat} {a : DfaA} (h : DfaOk w a) {m : List Bool} (hl : m.length = a.next.length) (h1 : ∀ i, getB a.acc i = true → getB m i = true) (h2 : ∀ i, getB m i = true → getB (liveA a) i = true) (hc : ClosedA a m) : m = liveA a :=
  getB_ext (by rw [hl, liveA_len h]) fun i => ⟨h2 i, live_sound (Q := fun i => getB m i = true) (fun s z hz h0 hq => hc s z hz h0 hq) _ _ h1 i⟩
end Go.Proofs.YtinbmhbfcoiefaaGreatDoor
end
section
/- The laws of the automata that are in one state: what their loops find. No program in sight. -/
namespace Go.Proofs.YtinbmhbfcoiefaaGreatDoor
open Go Go.E
set_option linter.unusedVariables false
set_option linter.unusedSimpArgs false
set_option maxRecDepth 10000
/-! DfaLeast: pairs that are told apart. -/
def getM2 (M : List (List Bool)) (i k : Nat) : Bool := getB (M[i]?.getD []) k
/-- What is told apart, when nothing more comes. -/
structure ApartF (a : DfaA) (M : List (List Bool)) : Prop where
  base : ∀ i k, i < a.next.length → k < a.next.length → endsA a (i : Int) ≠ endsA a (k : Int) → getM2 M i k = true
  closed : ∀ i k c, i < a.next.length → k < a.next.length → i ≠ k → c < 256 → getM2 M i k = false → (stepA a (i : Int) c < 0 ↔ stepA a (k : Int) c < 0) ∧ (0 ≤ stepA a (i : Int) c → getM2 M (stepA a (i : Int) c).toNat (stepA a (k : Int) c).toNat = false)
theorem apart_res {w : Nat} {a : DfaA} {M : List (List Bool)} (h : DfaOk w a) (hf : ApartF a M) : ∀ (b : List UInt8) (i k : Nat), i < a.next.length → k < a.next.length → getM2 M i k = false → resA a (i : Int) b = resA a (k : Int) b
  | [], i, k, hi, hk, hm => by
    unfold resA
    rw [List.foldl_nil, List.foldl_nil]
    apply Classical.byContradiction
    intro hn
    rw [hf.base i k hi hk hn] at hm; cases hm
  | c :: b, i, k, hi, hk, hm => by
    by_cases e : i = k
    · rw [e]
    have hc : c.toNat < 256 := UInt8.toNat_lt c
    obtain ⟨h1, h2⟩ := hf.closed i k c.toNat hi hk e hc hm
    rw [res_cons, res_cons]
    rcases step_to h (i : Int) hc with h3 | ⟨t, h3, h4⟩
    · rw [res_dead b (by omega), res_dead b (h1.1 (by omega))]
    · rcases step_to h (k : Int) hc with h5 | ⟨u, h5, h6⟩
      · have := h1.2 (by omega); omega
      · rw [h3, h5] at h2 ⊢
        exact apart_res h hf b t u h4 h6 (h2 (by omega))
theorem apart_all {a : DfaA} {M : List (List Bool)} (h : LeastA a) (hf : ApartF a M) {i k : Nat} (hi : i < a.next.length) (hk : k < a.next.length) (hne : i ≠ k) : getM2 M i k = true := by
  obtain ⟨w, _, hok, _⟩ := h.ok
  cases e : getM2 M i k with
  | true => rfl
  | false => exact absurd (h.diff i k hi hk fun b => apart_res hok hf b i k hi hk e) hne
/-! DfaLeast: lives. -/
/-- A state that is not yet found, from which one is that is, or that ends. -/
theorem live_front {w : Nat} {a : DfaA} (h : DfaOk w a) (m : List Bool) : ∀ (b : List UInt8) (s : Nat), s < a.next.length → resA a (s : Int) b = true → getB m s = false → ∃ t, t < a.next.length ∧ getB m t = false ∧ (endsA a (t : Int) = true ∨ ∃ c u : Nat, c < 256 ∧ stepA a (t : Int) c = (u : Int) ∧ u < a.next.length ∧ getB m u = true)
  | [], s, hs, hr, hm => ⟨s, hs, hm, .inl hr⟩
  | c :: b, s, hs, hr, hm => by
    have hc : c.toNat < 256 := UInt8.toNat_lt c
    rw [res_cons] at hr
    rcases step_to h (s : Int) hc with h3 | ⟨t, h3, h4⟩
    · rw [h3, res_dead b (by omega)] at hr; cases hr
    · rw [h3] at hr
      cases e : getB m t with
      | true => exact ⟨s, hs, hm, .inr ⟨c.toNat, t, hc, h3, h4, e⟩⟩
      | false => exact live_front h m b t h4 hr e
/-- What a round over the states up to one has found. -/
structure EndsI (a : DfaA) (m0 m : List Bool) (s : Nat) : Prop where
  len : m.length = a.next.length
  up : ∀ i, getB m0 i = true → getB m i = true
  here : ∀ t, t < s → endsA a (t : Int) = true → getB m t = true
  to : ∀ t c u : Nat, t < s → c < 256 → stepA a (t : Int) c = (u : Int) → getB m0 u = true → getB m t = true
theorem ends_round {a : DfaA} (h : LeastA a) (hl : ∀ s, s < a.next.length → LiveA a s) {m0 m : List Bool} {r : Nat} (h0 : m0.length = a.next.length) (hm : EndsI a m0 m a.next.length) (hr : (∀ s, s < a.next.length → getB m0 s = true) ∨ r ≤ cntB m0) : (∀ s, s < a.next.length → getB m s = true) ∨ r + 1 ≤ cntB m := by
  obtain ⟨w, _, hok, _⟩ := h.ok
  by_cases hall : ∀ s, s < a.next.length → getB m0 s = true
  · exact .inl fun s hs => hm.up s (hall s hs)
  · have hr := hr.resolve_left hall
    obtain ⟨s, hs⟩ := Classical.not_forall.1 hall
    have hs1 : s < a.next.length := Classical.byContradiction fun e => hs fun h => absurd h e
    have hs2 : getB m0 s = false := by cases e : getB m0 s with
      | false => rfl
      | true => exact absurd (fun _ => e) hs
    obtain ⟨b, hb⟩ := hl s hs1
    obtain ⟨t, t1, t2, t3⟩ := live_front hok m0 b s hs1 hb hs2
    have ht : getB m t = true := by
      rcases t3 with t3 | ⟨c, u, c1, c2, c3, c4⟩
      · exact hm.here t t1 t3
      · exact hm.to t c u t1 c1 c2 c4
    have := cnt_lt m0 m (by rw [h0, hm.len]) hm.up ⟨t, t2, ht⟩
    exact .inr (by omega)
theorem cntB_le (m : List Bool) : cntB m ≤ m.length := List.count_le_length
theorem ends_all {a : DfaA} {m : List Bool} (hl : m.length = a.next.length) (hr : (∀ s, s < a.next.length → getB m s = true) ∨ a.next.length + 1 ≤ cntB m) : ∀ s, s < a.next.length → getB m s = true :=
  hr.resolve_right fun h => by have := cntB_le m; omega
/-- What is met, in a round up to a state. -/
structure MetI (a : DfaA) (m : List Bool) (s : Nat) : Prop where
  len : m.length = a.next.length
  zero : getB m 0 = true
  to : ∀ t c u : Nat, t < s → c < 256 → stepA a (t : Int) c = (u : Int) → getB m t = true → getB m u = true
theorem met_all {a : DfaA} (hmet : ∀ t, 0 < t → t < a.next.length → ∃ s c, s < t ∧ c < 256 ∧ stepA a (s : Int) c = (t : Int)) {m : List Bool} {s : Nat} (h : MetI a m s) : ∀ t, t ≤ s → t < a.next.length → getB m t = true := by
  intro t
  induction t using Nat.strongRecOn with
  | _ t ih =>
    intro h1 h2
    by_cases e : t = 0
    · rw [e]; exact h.zero
    · obtain ⟨u, c, q1, q2, q3⟩ := hmet t (by omega) h2
      exact h.to u c t (by omega) q2 q3 (ih u q1 (by omega) (by omega))
/-! DfaClasses. -/
/-! DfaOrder. -/
end Go.Proofs.YtinbmhbfcoiefaaGreatDoor
end
section
/- What is made of an automaton of which only the sets of its edges that take a byte are known; the automata of an expression. No program in sight. -/
namespace Go.Proofs.YtinbmhbfcoiefaaGreatDoor
open Go Go.E
set_option linter.unusedVariables false
set_option maxRecDepth 10000
theorem step_first2 {a : NfaD} (hs : ∀ s ∈ setsN a.rows, SetIn s) {p : SetD} {c : Nat} (hp : p ∈ piecesG a) (hc : c < 256) (h : p.has c = true) (list : List Int) : stepN a.rows list c = stepN a.rows list (firstC p) := by
  have hcut := splitD_cuts (hs)
  obtain ⟨d, hd, hf⟩ := first_ex (hcut.each p hp).1 (hcut.each p hp).2
  have h2 := firstIs_has hf
  rw [firstC_is hf]
  exact step_like (fun s hsm => sig_at ((hcut.like p hp c d hc hd h).1 h2.2.1) hsm) list
theorem run_subs2 {a : NfaD} {d : DfaA} {sets : List (List Nat)} (hs : ∀ s ∈ setsN a.rows, SetIn s) (h : Subs a d sets) : ∀ (n : Nat) (b : List UInt8), b.length = n →
    (runN a b = [] ∧ runA d b = -1) ∨ ∃ i : Nat, sets[i]? = some (runN a b) ∧ runA d b = (i : Int)
  | 0, b, hb => by
    have : b = [] := List.eq_nil_of_length_eq_zero hb
    subst this
    exact .inr ⟨0, h.ok.start, rfl⟩
  | n + 1, b, hb => by
    obtain ⟨w, c, rfl⟩ : ∃ w c, b = w ++ [c] := ⟨b.dropLast, b.getLast (by intro e; subst e; cases hb), (List.dropLast_concat_getLast _).symm⟩
    have hr : runA d (w ++ [c]) = stepA d (runA d w) c.toNat := by unfold runA; rw [List.foldl_append]; rfl
    rw [run_snoc, hr]
    have hcut : Cuts (piecesG a) (setsN a.rows) := splitD_cuts (hs)
    rcases run_subs2 hs h n w (by simpa using hb) with ⟨h1, h2⟩ | ⟨i, h1, h2⟩
    · rw [h1, h2]
      refine .inl ⟨?_, by unfold stepA; rw [if_pos (.inl (by omega))]⟩
      unfold stepN intsN
      have : ∀ j, ¬ j ∈ reachN a.rows [] := fun j hj => by
        unfold reachN at hj
        have h3 : ∀ k m, (∀ i, getB m i = false) → ∀ i, getB (closeR a.rows k m) i = false := by
          intro k
          induction k with
          | zero => exact fun m h => h
          | succ k ih =>
            intro m hm
            refine ih _ fun i => ?_
            unfold roundR
            rw [getB_map]
            simp [hm]
        have h4 := (List.mem_filter.1 hj).2
        rw [h3 _ _ (fun i => by unfold firstR; rw [getB_map]; simp) j] at h4
        cases h4
      simp only [List.map_nil, List.flatMap_nil]
      exact List.eq_nil_iff_forall_not_mem.2 this
    · rw [h2]
      have hi := (List.getElem?_eq_some_iff.1 h1).1
      have hni : i < d.next.length := by rw [h.len]; exact hi
      obtain ⟨k, p, k1, k2, k3⟩ := cls_at hcut (c := c.toNat) c.toNat_lt
      have hsf := step_first2 hs (List.mem_of_getElem? k2) c.toNat_lt k3 (intsN (runN a w))
      obtain ⟨q1, q2⟩ := h.ok.row i d.next[i] (runN a w) (List.getElem?_eq_getElem hni) h1
      have hst : stepA d (i : Int) c.toNat = (d.next[i][k]?).getD (-1) := by
        unfold stepA
        rw [if_neg (by omega), Int.toNat_natCast, List.getElem?_eq_getElem hni, h.cls, k1]; rfl
      rw [hst, hsf]
      rcases q2 k p k2 with ⟨h3, h4⟩ | ⟨j, h3, h4⟩
      · exact .inl ⟨h3, by rw [h4]; rfl⟩
      · exact .inr ⟨j, h3, by rw [h4]; rfl⟩
theorem match_subs2 {a : NfaD} {d : DfaA} {sets : List (List Nat)} (hs : ∀ s ∈ setsN a.rows, SetIn s) (h : Subs a d sets) (b : List UInt8) : matchA d b = matchN a b := by
  unfold matchA matchN
  rcases run_subs2 hs h b.length b rfl with ⟨h1, h2⟩ | ⟨i, h1, h2⟩
  · rw [h1, h2]
    unfold endsA endsN intsN; simp
  · rw [h2]
    have hi := (List.getElem?_eq_some_iff.1 h1).1
    have hni : i < d.next.length := by rw [h.len]; exact hi
    have hac := h.ok.acc i _ hni h1
    unfold endsA
    rw [decide_eq_true (by omega), decide_eq_true (by rw [h.ok.alen]; omega), Int.toNat_natCast, hac]; rfl
theorem made_a2 {a : NfaD} (ha : ToIn a.rows) (hs : ∀ s ∈ setsN a.rows, SetIn s) (h : (makeA a).1 = 0) : MadeA (makeA a).2 ∧ ∀ b, matchA (makeA a).2 b = matchN a b := by
  obtain ⟨sets, hsu, hne⟩ := makeA_subs ha h
  have hm := match_subs2 hs hsu
  generalize (makeA a).2 = d at *
  have hcut : Cuts (piecesG a) (setsN a.rows) := splitD_cuts (hs)
  have h1 := (List.getElem?_eq_some_iff.1 hsu.ok.start).1
  have hsn : ∀ s, s < d.next.length → ∃ cur, sets[s]? = some cur := fun s hs => ⟨_, List.getElem?_eq_getElem (by have := hsu.len; omega)⟩
  have hok : DfaOk (piecesG a).length d := by
    refine ⟨by rw [hsu.cls, cls_len], fun k hk => ?_, hsu.ok.alen, fun r hr => ?_, fun r hr z hz => ?_⟩
    · rw [hsu.cls] at hk
      obtain ⟨c, hc, e⟩ := List.getElem_of_mem hk
      obtain ⟨k2, p, p1, p2, p3⟩ := cls_at hcut (c := c) (by rw [cls_len] at hc; exact hc)
      rw [List.getElem?_eq_getElem hc, e] at p1
      rw [Option.some.inj p1]
      exact (List.getElem?_eq_some_iff.1 p2).1
    · obtain ⟨s, hs1, e⟩ := List.getElem_of_mem hr
      obtain ⟨cur, hcur⟩ := hsn s hs1
      exact (hsu.ok.row s r cur (by rw [List.getElem?_eq_getElem hs1, e]) hcur).1
    · obtain ⟨s, hs1, e⟩ := List.getElem_of_mem hr
      obtain ⟨cur, hcur⟩ := hsn s hs1
      obtain ⟨q1, q2⟩ := hsu.ok.row s r cur (by rw [List.getElem?_eq_getElem hs1, e]) hcur
      obtain ⟨k, hk, e2⟩ := List.getElem_of_mem hz
      have hkp : k < (piecesG a).length := by omega
      rcases q2 k _ (List.getElem?_eq_getElem hkp) with ⟨_, q⟩ | ⟨i, q3, q4⟩
      · rw [List.getElem?_eq_getElem hk, e2] at q
        exact .inl (Option.some.inj q)
      · rw [List.getElem?_eq_getElem hk, e2] at q4
        have := (List.getElem?_eq_some_iff.1 q3).1
        have := Option.some.inj q4
        have := hsu.len
        exact .inr ⟨by omega, by omega⟩
  refine ⟨⟨⟨_, hcut.len, hok, fun k hk => ?_⟩, by rw [hsu.len]; exact h1, by rw [hsu.len]; exact hsu.ok.le⟩, hm⟩
  have hp := List.getElem?_eq_getElem hk
  obtain ⟨c, hc, hf⟩ := first_ex (hcut.each _ (List.getElem_mem hk)).1 (hcut.each _ (List.getElem_mem hk)).2
  have hpc := (firstIs_has hf).2.1
  obtain ⟨k2, p, p1, p2, p3⟩ := cls_at hcut hc
  refine ⟨c, hc, ?_⟩
  rw [hsu.cls, p1]
  rcases Nat.lt_trichotomy k2 k with h | h | h
  · exact absurd ⟨p3, hpc⟩ ((hcut.at h p2 hp).2 c hc)
  · rw [h]
  · exact absurd ⟨hpc, p3⟩ ((hcut.at h hp p2).2 c hc)
end Go.Proofs.YtinbmhbfcoiefaaGreatDoor
end
section
/- The law DfaLeast, plain: pairs that are told apart round by round, states met, ends reached. No program in sight. -/
namespace Go.Proofs.YtinbmhbfcoiefaaGreatDoor
open Go Go.E
set_option linter.unusedVariables false
set_option linter.unusedSimpArgs false
set_option maxRecDepth 10000
theorem getB_put {m : List Bool} {i j : Nat} {v : Bool} (hi : i < m.length) : getB (m.set i v) j = if j = i then v else getB m j := by
  unfold getB
  by_cases e : j = i
  · subst e; rw [if_pos rfl, List.getElem?_set_self hi]; rfl
  · rw [if_neg e, List.getElem?_set_ne (fun h => e h.symm)]
theorem cntB_put {m : List Bool} {k : Nat} (h : m[k]? = some false) : cntB (m.set k true) = cntB m + 1 := by
  obtain ⟨hk, e⟩ := List.getElem?_eq_some_iff.1 h
  unfold cntB
  rw [List.count_set hk, e]
  simp
/-! Rows of a square. -/
structure MatOk (n : Nat) (M : List (List Bool)) : Prop where
  len : M.length = n
  row : ∀ r ∈ M, r.length = n
def cntM (M : List (List Bool)) : Nat := (M.map cntB).sum
theorem cntM_le {n : Nat} : ∀ {M : List (List Bool)}, (∀ r ∈ M, r.length = n) → cntM M ≤ M.length * n
  | [], _ => Nat.zero_le _
  | r :: M, h => by
    have h1 := cntM_le (M := M) (fun x hx => h x (List.mem_cons_of_mem _ hx))
    have h2 := cntB_le r
    rw [h r (List.mem_cons_self ..)] at h2
    unfold cntM at h1 ⊢
    rw [List.map_cons, List.sum_cons, List.length_cons, Nat.succ_mul]
    omega
theorem cntM_set : ∀ {M : List (List Bool)} {i : Nat} {r r' : List Bool}, M[i]? = some r → cntM (M.set i r') + cntB r = cntM M + cntB r'
  | [], i, r, r', h => by simp at h
  | x :: M, 0, r, r', h => by
    simp at h; subst h
    unfold cntM
    rw [List.set_cons_zero, List.map_cons, List.sum_cons, List.map_cons, List.sum_cons]; omega
  | x :: M, i + 1, r, r', h => by
    have := cntM_set (M := M) (i := i) (r := r) (r' := r') (by simpa using h)
    unfold cntM at this ⊢
    rw [List.set_cons_succ, List.map_cons, List.sum_cons, List.map_cons, List.sum_cons]; omega
/-- A pair told apart. -/
def setM (M : List (List Bool)) (i k : Nat) : List (List Bool) := M.set i ((M[i]?.getD []).set k true)
theorem MatOk.at {n : Nat} {M : List (List Bool)} (h : MatOk n M) {i : Nat} (hi : i < n) : ∃ r, M[i]? = some r ∧ r.length = n := by
  have hl : i < M.length := by rw [h.len]; exact hi
  exact ⟨M[i], List.getElem?_eq_getElem hl, h.row _ (List.getElem_mem hl)⟩
theorem MatOk.put {n : Nat} {M : List (List Bool)} (h : MatOk n M) {i k : Nat} (hi : i < n) : MatOk n (setM M i k) := by
  obtain ⟨r, h1, h2⟩ := h.at hi
  refine ⟨by unfold setM; rw [List.length_set, h.len], fun x hx => ?_⟩
  unfold setM at hx
  rw [h1, Option.getD_some] at hx
  rcases List.mem_or_eq_of_mem_set hx with hx | rfl
  · exact h.row x hx
  · rw [List.length_set, h2]
theorem getM_put {n : Nat} {M : List (List Bool)} (h : MatOk n M) {i k : Nat} (hi : i < n) (hk : k < n) (i' k' : Nat) : getM2 (setM M i k) i' k' = if i' = i ∧ k' = k then true else getM2 M i' k' := by
  obtain ⟨r, h1, h2⟩ := h.at hi
  have hl : i < M.length := by rw [h.len]; exact hi
  unfold getM2 setM
  rw [h1, Option.getD_some]
  by_cases e : i' = i
  · subst e
    rw [List.getElem?_set_self hl, Option.getD_some, h1, Option.getD_some, getB_put (by omega)]
    by_cases e2 : k' = k <;> simp [e2]
  · rw [List.getElem?_set_ne (fun h => e h.symm), if_neg (fun h => e h.1)]
theorem cnt_put {n : Nat} {M : List (List Bool)} (h : MatOk n M) {i k : Nat} (hi : i < n) (hk : k < n) (hf : getM2 M i k = false) : cntM (setM M i k) = cntM M + 1 := by
  obtain ⟨r, h1, h2⟩ := h.at hi
  unfold getM2 at hf
  rw [h1, Option.getD_some] at hf
  have hr : r[k]? = some false := by
    unfold getB at hf
    rw [List.getElem?_eq_getElem (by omega), Option.getD_some] at hf
    rw [List.getElem?_eq_getElem (by omega), hf]
  have h3 := cntM_set (r' := r.set k true) h1
  rw [cntB_put hr] at h3
  unfold setM
  rw [h1, Option.getD_some]
  omega
def ClosedP (a : DfaA) (M : List (List Bool)) (i k c : Nat) : Prop := i ≠ k → getM2 M i k = false →
  (stepA a (i : Int) c < 0 ↔ stepA a (k : Int) c < 0) ∧ (0 ≤ stepA a (i : Int) c → getM2 M (stepA a (i : Int) c).toNat (stepA a (k : Int) c).toNat = false)
def BaseM (a : DfaA) (M : List (List Bool)) : Prop := ∀ i k, i < a.next.length → k < a.next.length → endsA a (i : Int) ≠ endsA a (k : Int) → getM2 M i k = true
/-- What a round has found up to a pair and a byte. -/
structure Rnd (a : DfaA) (M0 M : List (List Bool)) (more : Bool) (i k c : Nat) : Prop where
  mat : MatOk a.next.length M
  base : BaseM a M
  go : more = true → cntM M0 < cntM M
  stay : more = false → M = M0 ∧ ∀ i' k' c', (i' < i ∨ (i' = i ∧ (k' < k ∨ (k' = k ∧ c' < c)))) → k' < a.next.length → c' < 256 → ClosedP a M0 i' k' c'
section
variable {a : DfaA} {M0 M : List (List Bool)} {more : Bool} {i k c : Nat}
theorem Rnd.start (hm : MatOk a.next.length M) (hb : BaseM a M) : Rnd a M M false 0 0 0 :=
  ⟨hm, hb, (fun h => by cases h), fun _ => ⟨rfl, fun i' k' c' h => by omega⟩⟩
theorem Rnd.skip (h : Rnd a M0 M more i k c) (hc : more = false → ClosedP a M i k c) : Rnd a M0 M more i k (c + 1) :=
  ⟨h.mat, h.base, h.go, fun hm => ⟨(h.stay hm).1, fun i' k' c' hl h1 h2 => by
    obtain ⟨e, hs⟩ := h.stay hm
    by_cases e2 : i' = i ∧ k' = k ∧ c' = c
    · obtain ⟨rfl, rfl, rfl⟩ := e2; rw [← e]; exact hc hm
    · exact hs i' k' c' (by omega) h1 h2⟩⟩
theorem Rnd.put (h : Rnd a M0 M more i k c) (hi : i < a.next.length) (hk : k < a.next.length) (hf : getM2 M i k = false) : Rnd a M0 (setM M i k) true i k (c + 1) :=
  ⟨h.mat.put hi, fun i' k' h1 h2 h3 => by rw [getM_put h.mat hi hk]; split; exact rfl; exact h.base i' k' h1 h2 h3, fun _ => by
    rw [cnt_put h.mat hi hk hf]
    cases more with
    | true => have := h.go rfl; omega
    | false => rw [(h.stay rfl).1]; omega, (fun h => by cases h)⟩
theorem Rnd.jump (h : Rnd a M0 M more i k c) (hc : getM2 M i k = true ∨ i = k ∨ 256 ≤ c) : Rnd a M0 M more i (k + 1) 0 :=
  ⟨h.mat, h.base, h.go, fun hm => ⟨(h.stay hm).1, fun i' k' c' hl h1 h2 => by
    obtain ⟨e, hs⟩ := h.stay hm
    by_cases e2 : i' = i ∧ k' = k
    · obtain ⟨rfl, rfl⟩ := e2
      rcases hc with hc | hc | hc
      · intro _ hf; rw [← e, hc] at hf; cases hf
      · exact fun hn => absurd hc hn
      · exact hs i' k' c' (by omega) h1 h2
    · exact hs i' k' c' (by omega) h1 h2⟩⟩
theorem Rnd.row (h : Rnd a M0 M more i k c) (hk : a.next.length ≤ k) : Rnd a M0 M more (i + 1) 0 0 :=
  ⟨h.mat, h.base, h.go, fun hm => ⟨(h.stay hm).1, fun i' k' c' hl h1 h2 => (h.stay hm).2 i' k' c' (by omega) h1 h2⟩⟩
theorem Rnd.fin (h : Rnd a M0 M false i k c) (hi : a.next.length ≤ i) : ApartF a M :=
  ⟨h.base, fun i' k' c' h1 h2 h3 h4 h5 => by
    obtain ⟨e, hs⟩ := h.stay rfl
    subst e
    exact hs i' k' c' (by omega) h2 h4 h3 h5⟩
end
/-! States that are met, and from which an end is reached. -/
structure MetP (a : DfaA) (m : List Bool) (s c : Nat) : Prop where
  len : m.length = a.next.length
  zero : getB m 0 = true
  to : ∀ t c' u : Nat, (t < s ∨ (t = s ∧ c' < c)) → c' < 256 → stepA a (t : Int) c' = (u : Int) → getB m t = true → getB m u = true
section
variable {a : DfaA} {m : List Bool} {s c : Nat}
theorem MetP.met (hmet : ∀ t, 0 < t → t < a.next.length → ∃ s c, s < t ∧ c < 256 ∧ stepA a (s : Int) c = (t : Int)) (h : MetP a m s c) : ∀ t, t ≤ s → t < a.next.length → getB m t = true :=
  met_all hmet (m := m) (s := s) ⟨h.len, h.zero, fun t c' u h1 h2 h3 h4 => h.to t c' u (.inl h1) h2 h3 h4⟩
theorem MetP.skip (h : MetP a m s c) (hz : stepA a (s : Int) c < 0) : MetP a m s (c + 1) :=
  ⟨h.len, h.zero, fun t c' u h1 h2 h3 h4 => by
    by_cases e : t = s ∧ c' = c
    · obtain ⟨rfl, rfl⟩ := e; omega
    · exact h.to t c' u (by omega) h2 h3 h4⟩
theorem MetP.put (hmet : ∀ t, 0 < t → t < a.next.length → ∃ s c, s < t ∧ c < 256 ∧ stepA a (s : Int) c = (t : Int)) (h : MetP a m s c) (hs : s < a.next.length) {u : Nat} (hu : u < a.next.length) (hz : stepA a (s : Int) c = (u : Int)) : MetP a (m.set u true) s (c + 1) := by
  have hul : u < m.length := by rw [h.len]; exact hu
  refine ⟨by rw [List.length_set, h.len], by rw [getB_put hul]; split; exact rfl; exact h.zero, fun t c' v h1 h2 h3 h4 => ?_⟩
  rw [getB_put hul]
  by_cases e1 : v = u
  · rw [if_pos e1]
  rw [if_neg e1]
  by_cases e : t = s ∧ c' = c
  · obtain ⟨rfl, rfl⟩ := e
    rw [hz] at h3
    exact absurd (Int.ofNat.inj h3).symm e1
  · refine h.to t c' v (by omega) h2 h3 (h.met hmet t (by omega) ?_)
    rcases h1 with h1 | h1 <;> omega
theorem MetP.next (h : MetP a m s c) (hc : 256 ≤ c) : MetP a m (s + 1) 0 :=
  ⟨h.len, h.zero, fun t c' u h1 h2 h3 h4 => h.to t c' u (by omega) h2 h3 h4⟩
theorem MetP.again (hm : m.length = a.next.length) (h0 : getB m 0 = true) : MetP a m 0 0 := ⟨hm, h0, fun t c' u h1 h2 h3 h4 => by omega⟩
end
structure EndsP (a : DfaA) (e0 e : List Bool) (s c : Nat) : Prop where
  len : e.length = a.next.length
  up : ∀ i, getB e0 i = true → getB e i = true
  here : ∀ t, t ≤ s → endsA a (t : Int) = true → getB e t = true
  to : ∀ t c' u : Nat, (t < s ∨ (t = s ∧ c' < c)) → c' < 256 → stepA a (t : Int) c' = (u : Int) → getB e0 u = true → getB e t = true
section
variable {a : DfaA} {e0 e : List Bool} {s c : Nat}
theorem EndsI.put (h : EndsI a e0 e s) (hs : s < a.next.length) : EndsP a e0 (e.set s (getB e s || endsA a (s : Int))) s 0 := by
  have hl : s < e.length := by rw [h.len]; exact hs
  refine ⟨by rw [List.length_set, h.len], fun i hi => ?_, fun t h1 h2 => ?_, fun t c' u h1 h2 h3 h4 => ?_⟩
  · rw [getB_put hl]; split
    · rename_i e1; subst e1; rw [h.up i hi]; rfl
    · exact h.up i hi
  · rw [getB_put hl]; split
    · rename_i e1; subst e1; rw [h2]; simp
    · exact h.here t (by omega) h2
  · rw [getB_put hl, if_neg (by omega)]
    exact h.to t c' u (by omega) h2 h3 h4
theorem EndsP.skip (h : EndsP a e0 e s c) (hz : stepA a (s : Int) c < 0) : EndsP a e0 e s (c + 1) :=
  ⟨h.len, h.up, h.here, fun t c' u h1 h2 h3 h4 => by
    by_cases e : t = s ∧ c' = c
    · obtain ⟨rfl, rfl⟩ := e; omega
    · exact h.to t c' u (by omega) h2 h3 h4⟩
theorem EndsP.put (h : EndsP a e0 e s c) (hs : s < a.next.length) {u : Nat} (hz : stepA a (s : Int) c = (u : Int)) : EndsP a e0 (e.set s (getB e s || getB e u)) s (c + 1) := by
  have hl : s < e.length := by rw [h.len]; exact hs
  have hup : ∀ i, getB e i = true → getB (e.set s (getB e s || getB e u)) i = true := fun i hi => by
    rw [getB_put hl]; split
    · rename_i e1; subst e1; rw [hi]; rfl
    · exact hi
  refine ⟨by rw [List.length_set, h.len], fun i hi => hup i (h.up i hi), fun t h1 h2 => hup t (h.here t h1 h2), fun t c' v h1 h2 h3 h4 => ?_⟩
  by_cases e : t = s ∧ c' = c
  · obtain ⟨rfl, rfl⟩ := e
    rw [hz] at h3
    have := Int.ofNat.inj h3
    subst this
    rw [getB_put hl, if_pos rfl, h.up u h4]; simp
  · exact hup t (h.to t c' v (by omega) h2 h3 h4)
theorem EndsP.next (h : EndsP a e0 e s c) (hc : 256 ≤ c) : EndsI a e0 e (s + 1) :=
  ⟨h.len, h.up, fun t h1 h2 => h.here t (by omega) h2, fun t c' u h1 h2 h3 h4 => h.to t c' u (by omega) h2 h3 h4⟩
theorem EndsI.again (he : e.length = a.next.length) : EndsI a e e 0 := ⟨he, fun i h => h, fun t h => by omega, fun t c u h => by omega⟩
end
/-- The pairs of which one is an end. -/
def baseR (a : DfaA) (i : Nat) : List Bool := (List.range a.next.length).map fun (k : Nat) => endsA a (i : Int) != endsA a (k : Int)
theorem baseR_get {a : DfaA} {i k : Nat} (hk : k < a.next.length) : (baseR a i)[k]? = some (endsA a (i : Int) != endsA a (k : Int)) := by
  unfold baseR; rw [List.getElem?_map, List.getElem?_range hk]; rfl
theorem baseR_len (a : DfaA) (i : Nat) : (baseR a i).length = a.next.length := by simp [baseR]
theorem base_ok {a : DfaA} : MatOk a.next.length ((List.range a.next.length).map (baseR a)) ∧ BaseM a ((List.range a.next.length).map (baseR a)) := by
  refine ⟨⟨by simp, fun r hr => ?_⟩, fun i k hi hk hn => ?_⟩
  · obtain ⟨i, _, rfl⟩ := List.mem_map.1 hr; exact baseR_len a i
  · unfold getM2
    rw [List.getElem?_map, List.getElem?_range hi, Option.map_some, Option.getD_some]
    unfold getB
    rw [baseR_get hk, Option.getD_some]
    simpa using hn
end Go.Proofs.YtinbmhbfcoiefaaGreatDoor
end
section
/- How an automaton lies in memory while it is made: state, edge. -/
namespace Go.E
open Go
theorem Repl.app (G : Chs) {l : Chs} {c x : Chunk} {l' : Chs} (h : Repl l c x l') : Repl (G ++ l) c x (G ++ l') := by
  induction G with
  | nil => exact h
  | cons y G ih => exact .miss y ih
instance HasBlk.app (G l : Chs) (b : Nat) (t : TypeId) (cs : List Value) (f : Chunk → Chs) [h : HasBlk l b t cs f] : HasBlk (G ++ l) b t cs (fun x => G ++ f x) := ⟨fun x => (h.repl x).app G⟩
instance HasSl.app (G l : Chs) (a : Option Addr) (n c : Nat) (t : TypeId) (s : Nat) (cs : List Value) (f : Chunk → Chs) [h : HasSl l a n c t s cs f] : HasSl (G ++ l) a n c t s cs (fun x => G ++ f x) := ⟨fun x => (h.repl x).app G⟩
end Go.E
namespace Go.Proofs.YtinbmhbfcoiefaaGreatDoor
open Go Go.E
set_option linter.unusedVariables false
set_option linter.unusedSimpArgs false
set_option maxRecDepth 10000
def edgeV (x : EdgeD) : List Value := [.int .i64 (x.to : Int), wV x.set.a, wV x.set.b, wV x.set.c, wV x.set.d, .bool x.free]
def edgesV : List EdgeD → List Value
  | [] => []
  | x :: r => edgeV x ++ edgesV r
theorem edgesV_len : ∀ (l : List EdgeD), (edgesV l).length = l.length * 6
  | [] => rfl
  | x :: r => by rw [edgesV, List.length_append, edgesV_len r, List.length_cons]; simp [edgeV]; omega
theorem edgesV_app : ∀ (l m : List EdgeD), edgesV (l ++ m) = edgesV l ++ edgesV m
  | [], m => rfl
  | x :: l, m => by rw [List.cons_append, edgesV, edgesV, edgesV_app l m, List.append_assoc]
theorem edgesV_snoc (l : List EdgeD) (x : EdgeD) : edgesV (l ++ [x]) = edgesV l ++ edgeV x := by
  rw [edgesV_app, edgesV, edgesV, List.append_nil]
theorem edgesV_drop : ∀ (l : List EdgeD) (i : Nat) (x : EdgeD), l[i]? = some x → ((edgesV l).drop (i * 6)).take 6 = edgeV x
  | [], i, x, h => by simp at h
  | y :: l, 0, x, h => by simp at h; subst h; rfl
  | y :: l, i + 1, x, h => by
    have ih := edgesV_drop l i x (by simpa using h)
    rw [edgesV, show (i + 1) * 6 = (edgeV y).length + i * 6 by show _ = 6 + i * 6; omega, ← List.drop_drop, List.drop_left]
    exact ih
/-- A row of edges: where it lies, how much room it has, what is in it. -/
abbrev RowM := (Option Addr × Nat) × List EdgeD
def hdrV (r : RowM) : Value := .slice r.1.1 r.2.length r.1.2
def rowC (r : RowM) : Chunk := .sl r.1.1 r.2.length r.1.2 141 6 (edgesV r.2)
def rowsOf (R : List RowM) : RowsN := R.map (·.2)
/-- What a maker owns. -/
abbrev mkC (q : Nat) (a : Option Addr) (c : Nat) (e : Int) (full : Bool) (R : List RowM) (r : Chs) : Chs :=
  .blk q 111 [.slice a R.length c, .int .i64 e, .bool full] :: .sl a R.length c 147 1 (R.map hdrV) :: (R.map rowC ++ r)
theorem mk_in (x : Chunk) (q : Nat) (a : Option Addr) (c : Nat) (e : Int) (full : Bool) (R : List RowM) (r : Chs) : (x :: mkC q a c e full R r).Perm (mkC q a c e full R (x :: r)) := by
  unfold mkC
  refine (List.Perm.swap _ _ _).trans (((List.Perm.swap _ _ _).trans ?_).cons _)
  exact (List.perm_middle.symm).cons _
theorem rows_split {R : List RowM} {i : Nat} {x : RowM} (h : R[i]? = some x) (r : Chs) : (R.map rowC ++ r).Perm (rowC x :: ((R.take i ++ R.drop (i + 1)).map rowC ++ r)) := by
  obtain ⟨hi, hx⟩ := List.getElem?_eq_some_iff.1 h
  have e : R = R.take i ++ x :: R.drop (i + 1) := by rw [← hx, ← List.drop_eq_getElem_cons hi, List.take_append_drop]
  have e2 := congrArg (List.map rowC) e
  rw [List.map_append, List.map_cons] at e2
  rw [e2, List.map_append, List.append_assoc, List.append_assoc, List.cons_append]
  exact List.perm_middle
theorem rows_join {R : List RowM} {i : Nat} (hi : i < R.length) (y : RowM) (r : Chs) : (rowC y :: ((R.take i ++ R.drop (i + 1)).map rowC ++ r)).Perm ((R.set i y).map rowC ++ r) := by
  rw [List.set_eq_take_append_cons_drop, if_pos hi, List.map_append, List.map_append, List.map_cons, List.append_assoc, List.append_assoc, List.cons_append]
  exact List.perm_middle.symm
theorem rowsOf_set {R : List RowM} {i : Nat} {x : RowM} (h : R[i]? = some x) (a : Option Addr × Nat) (y : EdgeD) (full : Bool) : rowsOf (R.set i (a, x.2 ++ [y])) = (edgeN i y ⟨rowsOf R, full⟩).rows := by
  unfold rowsOf edgeN
  dsimp only
  rw [List.map_set, List.getElem?_map, h]; rfl
end Go.Proofs.YtinbmhbfcoiefaaGreatDoor
end
section
/- Contracts of nfa: state, edge. -/
namespace Go.Proofs.YtinbmhbfcoiefaaGreatDoor
open Go Go.E
set_option linter.unusedVariables false
set_option linter.unusedSimpArgs false
set_option maxRecDepth 10000
section
variable {ro : Ro} {own r : Chs} {K : Value → Ro → Chs → Prop} {g : Chunk → Chs}
theorem rows_snoc (R : List RowM) (r : Chs) : ((.sl none 0 0 141 6 [] : Chunk) :: (R.map rowC ++ r)).Perm ((R ++ [((none, 0), [])]).map rowC ++ r) := by
  rw [List.map_append, List.append_assoc]
  exact List.perm_middle.symm
theorem nstate_ok {q c : Nat} {a : Option Addr} {e : Int} {full : Bool} {R : List RowM} (hR : R.length ≤ 4096)
    (hk : ∀ a' c' R', rowsOf R' = (stateN ⟨rowsOf R, full⟩).2.rows → K (.int .i64 ((stateN ⟨rowsOf R, full⟩).1 : Int)) ro (mkC q a' c' e (stateN ⟨rowsOf R, full⟩).2.full R' r)) :
    CallOk Tryz.prog 44 #[ptr' q] ro (mkC q a c e full R r) K := by
  have hlen : (rowsOf R).length = R.length := by simp [rowsOf]
  have hL : (R.map hdrV).length = R.length := by simp
  unfold stateN at hk
  dsimp only at hk
  rw [hlen] at hk
  unfold mkC
  by_cases h : R.length = 4096
  · rw [if_pos h] at hk
    refine CallOk.intro (args := [_]) (rs := [_]) T_ok Tryz.func44 Tryz.call44 rfl rfl (by kernel_rfl) rfl rfl ?_
    repeat (first | exact endA | refine wkP ?_ | refine opB (fun b => ?_) | refine opA (fun a' c' hc1 hc2 => ?_) | (apply GJ.and; exact rfl; intro hg) | (apply GJ.or; exact rfl; intro hg))
    exact Wk.outS Sup.auto (.refl _) (hk a c R rfl)
  · rw [if_neg h] at hk
    refine CallOk.intro (args := [_]) (rs := [_]) T_ok Tryz.func44 Tryz.call44 rfl rfl (by kernel_rfl) rfl rfl ?_
    repeat (first | exact endA | refine wkP ?_ | refine opB (fun b => ?_) | refine opA (fun a' c' hc1 hc2 => ?_) | (apply GJ.and; exact rfl; intro hg) | (apply GJ.or; exact rfl; intro hg))
    have hk2 := hk a' c' (R ++ [((none, 0), [])]) (by simp [rowsOf])
    unfold mkC at hk2
    rw [List.length_append, List.map_append, show ([((none, 0), [])] : List RowM).length = 1 from rfl] at hk2
    dsimp only at hk2
    refine Wk.outE (own1 := .sl none 0 0 141 6 [] :: .blk q 111 [.slice a' (R.length + 1) c', .int .i64 e, .bool full] :: .sl a' (R.length + 1) c' 147 1 (R.map hdrV ++ [.slice none 0 0]) :: (R.map rowC ++ r)) (Sup.nilc (Sup.all _)) ?_ hk2 (congrArg (Value.int .i64) (by omega))
    exact (List.Perm.swap _ _ _).trans (((List.Perm.swap _ _ _).trans ((rows_snoc R r).cons _)).cons _)
theorem nedge_ok {q c : Nat} {a : Option Addr} {e : Int} {full : Bool} {R : List RowM} {f : Nat} {x : EdgeD} {row : RowM} (hf : R[f]? = some row) (hl : row.2.length ≤ 1000000) (hR : R.length ≤ 4096)
    (hk : ∀ R', rowsOf R' = (edgeN f x ⟨rowsOf R, full⟩).rows → R'.length = R.length → K (.tuple #[]) ro (mkC q a c e full R' r)) :
    CallOk Tryz.prog 68 #[ptr' q, .int .i64 (f : Int), .agg (edgeV x).toArray] ro (mkC q a c e full R r) K := by
  have hL : (R.map hdrV).length = R.length := by simp
  have hfl := (List.getElem?_eq_some_iff.1 hf).1
  have hE := edgesV_len row.2
  have hgf : (R.map hdrV)[f]? = some (hdrV row) := by rw [List.getElem?_map, hf]; rfl
  obtain ⟨⟨ra, rc⟩, rl⟩ := row
  unfold mkC
  refine CallOk.perm (((rows_split hf r).cons _).cons _) ?_
  unfold rowC hdrV at *
  dsimp only at *
  have hrow : R[((f : Nat) : Int).toNat]! = ((ra, rc), rl) := by rw [Int.toNat_natCast, getElem!_def, hf]
  have hfl2 : flat [Value.agg (Value.agg (edgeV x).toArray).cells.toList.toArray] = edgeV x := by show _ ++ [] = _; rw [List.append_nil]; rfl
  refine CallOk.intro (args := [_, _, _]) (rs := []) T_ok Tryz.func68 Tryz.call68 rfl rfl (by kernel_rfl) rfl rfl ?_
  repeat (first | exact endA | refine wkT ?_ | refine opB (fun b => ?_) | refine opA (fun a' c' hc1 hc2 => ?_) | (apply GJ.and; exact rfl; intro hg) | (apply GJ.or; exact rfl; intro hg))
  obtain ⟨bx, hbx⟩ : ∃ z : Nat, z = b := ⟨_, rfl⟩
  subst hbx
  refine Bs.mk ⟨[.blk bx 141 (Value.agg (edgeV x).toArray).cells.toList, .blk q 111 [.slice a R.length c, .int .i64 e, .bool full], .sl a R.length c 147 1 (R.map fun r => .slice r.1.1 r.2.length r.1.2)], Sup.auto, ?_⟩
  repeat (first | exact endA | refine wkU ?_ | (show QOk _ _ _ _ _ _ _; refine QOk.build rfl rfl Nf.auto ?_) | (show GJ _ _ _ _ _ _ _; first | with_reducible refine GJ.neF ?_ | with_reducible refine GJ.neT ?_) | (show Br _ _ _; with_reducible refine Br.ne ?_) | refine opB (fun b => ?_) | refine opA (fun a' c' hc1 hc2 => ?_) | (apply GJ.and; exact rfl; intro hg) | (apply GJ.or; exact rfl; intro hg))
  rw [hrow]
  dsimp only
  repeat (first | exact endA | refine wkU ?_ | (show QOk _ _ _ _ _ _ _; refine QOk.build rfl rfl Nf.auto ?_) | (show GJ _ _ _ _ _ _ _; first | with_reducible refine GJ.neF ?_ | with_reducible refine GJ.neT ?_) | (show Br _ _ _; with_reducible refine Br.ne ?_) | refine opB (fun b => ?_) | refine opA (fun a' c' hc1 hc2 => ?_) | (apply GJ.and; exact rfl; intro hg) | (apply GJ.or; exact rfl; intro hg))
  rw [Int.toNat_natCast]
  refine OpOk.storeSl (k := f) rfl rfl rfl rfl (by rw [hL]; exact hfl) ?_
  repeat (first | exact endA | refine wkU ?_ | (show QOk _ _ _ _ _ _ _; refine QOk.build rfl rfl Nf.auto ?_) | (show GJ _ _ _ _ _ _ _; first | with_reducible refine GJ.neF ?_ | with_reducible refine GJ.neT ?_) | (show Br _ _ _; with_reducible refine Br.ne ?_) | refine opB (fun b => ?_) | refine opA (fun a' c' hc1 hc2 => ?_) | (apply GJ.and; exact rfl; intro hg) | (apply GJ.or; exact rfl; intro hg))
  rw [hfl2, ← edgesV_snoc, show rl.length + 1 = (rl ++ [x]).length by simp]
  have hk2 := hk (R.set f ((a', c'), rl ++ [x])) (rowsOf_set hf (a', c') x full) (by simp)
  unfold mkC at hk2
  rw [List.length_set, List.map_set] at hk2
  refine Wk.outS (own1 := .blk q 111 [.slice a R.length c, .int .i64 e, .bool full] :: .sl a R.length c 147 1 ((R.map hdrV).set f (hdrV ((a', c'), rl ++ [x]))) :: rowC ((a', c'), rl ++ [x]) :: ((R.take f ++ R.drop (f + 1)).map rowC ++ r)) (Sup.drop _ (Sup.all _)) (((rows_join hfl ((a', c'), rl ++ [x]) r).cons _).cons _) hk2
end
end Go.Proofs.YtinbmhbfcoiefaaGreatDoor
end
section
/- Contracts of regex: the reader's small functions. -/
namespace Go.Proofs.YtinbmhbfcoiefaaGreatDoor
open Go Go.E
set_option linter.unusedVariables false
set_option linter.unusedSimpArgs false
set_option maxRecDepth 10000
def rsV (t : List UInt8) (s : RS) : List Value := [str t, .int .i64 (s.p : Int), .int .i64 (s.n : Int), .int .i64 (s.e : Int), .int .i64 (s.f : Int)]
def nodeV (k : Int) (z : SetD) (a : Option Addr) (m c : Nat) (x y : Int) : List Value := [.int .i64 k, wV z.a, wV z.b, wV z.c, wV z.d, .slice a m c, .int .i64 x, .int .i64 y]
section
variable {ro : Ro} {own r : Chs} {K : Value → Ro → Chs → Prop} {g : Chunk → Chs} {q : Nat} {t : List UInt8}
theorem rwrong_ok {s : RS} [hb : HasBlk own q 105 (rsV t s) g] {x y : Int} (e a : Nat) (hx : x = (e : Int)) (hy : y = (a : Int)) (hk : K (.tuple #[]) ro (g (.blk q 105 (rsV t (s.wrong e a))))) :
    CallOk Tryz.prog 42 #[ptr' q, .int .i64 x, .int .i64 y] ro own K := by
  subst hx; subst hy
  obtain ⟨r, p1, p2⟩ := hb.split
  refine CallOk.perm p1 ?_
  refine CallOk.intro (args := [_, _, _]) (rs := []) T_ok Tryz.func42 Tryz.call42 rfl rfl (by kernel_rfl) rfl rfl ?_
  repeat (first | exact endA | refine wkP ?_ | refine opB (fun b => ?_) | refine opA (fun a' c' hc1 hc2 => ?_) | (apply GJ.and; exact rfl; intro hg) | (apply GJ.or; exact rfl; intro hg))
  refine Br.cases (fun h => ?_) (fun h => ?_)
  · have h : s.e = 0 := by omega
    unfold RS.wrong at hk
    rw [if_pos h] at hk
    repeat (first | exact endA | refine wkP ?_ | refine opB (fun b => ?_) | refine opA (fun a' c' hc1 hc2 => ?_) | (apply GJ.and; exact rfl; intro hg) | (apply GJ.or; exact rfl; intro hg))
    refine OpOk.storePart rfl rfl rfl rfl rfl (by exact Nat.le_refl 5) Nf.auto ?_
    repeat (first | exact endA | refine wkP ?_ | refine opB (fun b => ?_) | refine opA (fun a' c' hc1 hc2 => ?_) | (apply GJ.and; exact rfl; intro hg) | (apply GJ.or; exact rfl; intro hg))
    exact Wk.outS Sup.auto (p2 _) hk
  · have h : s.e ≠ 0 := by omega
    unfold RS.wrong at hk
    rw [if_neg h] at hk
    repeat (first | exact endA | refine wkP ?_ | refine opB (fun b => ?_) | refine opA (fun a' c' hc1 hc2 => ?_) | (apply GJ.and; exact rfl; intro hg) | (apply GJ.or; exact rfl; intro hg))
    exact Wk.outS Sup.auto (p2 _) hk
theorem rok_ok {s : RS} [hb : HasBlk own q 105 (rsV t s) g] (hk : K (.bool (decide ((s.e : Int) = 0))) ro own) :
    CallOk Tryz.prog 41 #[ptr' q] ro own K := by
  obtain ⟨r, p1, p2⟩ := hb.split
  refine CallOk.perm p1 ?_
  refine CallOk.intro (args := [_]) (rs := [_]) T_ok Tryz.func41 Tryz.call41 rfl rfl (by kernel_rfl) rfl rfl ?_
  repeat (first | exact endA | refine wkP ?_ | refine opB (fun b => ?_) | refine opA (fun a' c' hc1 hc2 => ?_) | (apply GJ.and; exact rfl; intro hg) | (apply GJ.or; exact rfl; intro hg))
  exact Wk.outS Sup.auto p1.symm hk
theorem peek_ok {s : RS} [hb : HasBlk own q 105 (rsV t s) g] (hk : K (.int .u8 (peekD t s : Int)) ro own) :
    CallOk Tryz.prog 84 #[ptr' q] ro own K := by
  obtain ⟨r, p1, p2⟩ := hb.split
  refine CallOk.perm p1 ?_
  by_cases h1 : s.p < t.length
  · by_cases h2 : s.e = 0
    · rw [peekD, if_pos ⟨h1, h2⟩] at hk
      refine CallOk.intro (args := [_]) (rs := [_]) T_ok Tryz.func84 Tryz.call84 rfl rfl (by kernel_rfl) rfl rfl ?_
      repeat (first | exact endA | refine wkT ?_ | refine Bs.all ?_ | (show QOk _ _ _ _ _ _ _; refine QOk.build rfl rfl Nf.auto ?_) | refine opB (fun b => ?_) | refine opA (fun a' c' hc1 hc2 => ?_) | (show GJ _ _ _ _ _ _ _; first | refine GJ.t (by decide) ?_ | refine GJ.t omAuto ?_))
      refine rok_ok (t := t) (s := s) ?_
      repeat (first | exact endA | refine wkT ?_ | refine Bs.all ?_ | (show QOk _ _ _ _ _ _ _; refine QOk.build rfl rfl Nf.auto ?_) | refine opB (fun b => ?_) | refine opA (fun a' c' hc1 hc2 => ?_) | (show GJ _ _ _ _ _ _ _; first | refine GJ.t (by decide) ?_ | refine GJ.t omAuto ?_))
      exact Wk.outS Sup.auto p1.symm hk
    · rw [peekD, if_neg (fun x => h2 x.2)] at hk
      refine CallOk.intro (args := [_]) (rs := [_]) T_ok Tryz.func84 Tryz.call84 rfl rfl (by kernel_rfl) rfl rfl ?_
      repeat (first | exact endA | refine wkT ?_ | refine Bs.all ?_ | (show QOk _ _ _ _ _ _ _; refine QOk.build rfl rfl Nf.auto ?_) | refine opB (fun b => ?_) | refine opA (fun a' c' hc1 hc2 => ?_) | (show GJ _ _ _ _ _ _ _; first | refine GJ.t (by decide) ?_ | refine GJ.t omAuto ?_))
      refine rok_ok (t := t) (s := s) ?_
      repeat (first | exact endA | refine wkA ?_ | refine opB (fun b => ?_) | refine opA (fun a' c' hc1 hc2 => ?_) | (apply GJ.and; exact rfl; intro hg) | (apply GJ.or; exact rfl; intro hg))
      exact Wk.outS Sup.auto p1.symm hk
  · rw [peekD, if_neg (fun x => h1 x.1)] at hk
    refine CallOk.intro (args := [_]) (rs := [_]) T_ok Tryz.func84 Tryz.call84 rfl rfl (by kernel_rfl) rfl rfl ?_
    repeat (first | exact endA | refine wkP ?_ | refine opB (fun b => ?_) | refine opA (fun a' c' hc1 hc2 => ?_) | (apply GJ.and; exact rfl; intro hg) | (apply GJ.or; exact rfl; intro hg))
    exact Wk.outS Sup.auto p1.symm hk
theorem peek_lt (t : List UInt8) (s : RS) : peekD t s < 256 := by
  unfold peekD; split
  · exact (t[s.p]!).toNat_lt
  · decide
theorem eat_ok {s : RS} [hb : HasBlk own q 105 (rsV t s) g] {x : Int} (c : Nat) (hx : x = (c : Int)) (h0 : c ≠ 0) (hp : s.p ≤ 10000000) (hk : K (.bool (decide (peekD t s = c))) ro (g (.blk q 105 (rsV t (eatS t c s))))) :
    CallOk Tryz.prog 65 #[ptr' q, .int .u8 x] ro own K := by
  subst hx
  obtain ⟨r, p1, p2⟩ := hb.split
  refine CallOk.perm p1 ?_
  refine CallOk.intro (args := [_, _]) (rs := [_]) T_ok Tryz.func65 Tryz.call65 rfl rfl (by kernel_rfl) rfl rfl ?_
  repeat (first | exact endA | refine wkA ?_ | refine opB (fun b => ?_) | refine opA (fun a' c' hc1 hc2 => ?_) | (apply GJ.and; exact rfl; intro hg) | (apply GJ.or; exact rfl; intro hg))
  refine peek_ok (t := t) (s := s) ?_
  by_cases h : peekD t s = c
  · rw [decide_eq_true h, eatS, if_pos h] at hk
    repeat (first | exact endA | refine wkA ?_ | refine opB (fun b => ?_) | refine opA (fun a' c' hc1 hc2 => ?_) | (apply GJ.and; exact rfl; intro hg) | (apply GJ.or; exact rfl; intro hg))
    exact Wk.outS Sup.auto (p2 _) hk
  · rw [decide_eq_false h, eatS, if_neg h] at hk
    repeat (first | exact endA | refine wkA ?_ | refine opB (fun b => ?_) | refine opA (fun a' c' hc1 hc2 => ?_) | (apply GJ.and; exact rfl; intro hg) | (apply GJ.or; exact rfl; intro hg))
    exact Wk.outS Sup.auto (p2 _) hk
theorem must_ok {s : RS} [hb : HasBlk own q 105 (rsV t s) g] {x : Int} (c : Nat) (hx : x = (c : Int)) (h0 : c ≠ 0) (hp : s.p ≤ 10000000) (hk : K (.tuple #[]) ro (g (.blk q 105 (rsV t (mustS t c s))))) :
    CallOk Tryz.prog 105 #[ptr' q, .int .u8 x] ro own K := by
  obtain ⟨r, p1, p2⟩ := hb.split
  refine CallOk.perm p1 ?_
  refine CallOk.intro (args := [_, _]) (rs := []) T_ok Tryz.func105 Tryz.call105 rfl rfl (by kernel_rfl) rfl rfl ?_
  repeat (first | exact endA | refine wkA ?_ | refine opB (fun b => ?_) | refine opA (fun a' c' hc1 hc2 => ?_) | (apply GJ.and; exact rfl; intro hg) | (apply GJ.or; exact rfl; intro hg))
  refine eat_ok (t := t) (s := s) c hx h0 hp ?_
  by_cases h : peekD t s = c
  · rw [mustS, if_pos h] at hk
    rw [decide_eq_true h, eatS, if_pos h]
    repeat (first | exact endA | refine wkA ?_ | refine opB (fun b => ?_) | refine opA (fun a' c' hc1 hc2 => ?_) | (apply GJ.and; exact rfl; intro hg) | (apply GJ.or; exact rfl; intro hg))
    exact Wk.outS Sup.auto (p2 _) hk
  · rw [mustS, if_neg h] at hk
    rw [decide_eq_false h, eatS, if_neg h]
    repeat (first | exact endA | refine wkA ?_ | refine opB (fun b => ?_) | refine opA (fun a' c' hc1 hc2 => ?_) | (apply GJ.and; exact rfl; intro hg) | (apply GJ.or; exact rfl; intro hg))
    refine rwrong_ok (t := t) (s := s) 5 s.p rfl rfl ?_
    repeat (first | exact endA | refine wkA ?_ | refine opB (fun b => ?_) | refine opA (fun a' c' hc1 hc2 => ?_) | (apply GJ.and; exact rfl; intro hg) | (apply GJ.or; exact rfl; intro hg))
    exact Wk.outS Sup.auto (p2 _) hk
theorem node_ok {s : RS} [hb : HasBlk own q 105 (rsV t s) g] {k x y : Int} {z : SetD} {a : Option Addr} {m c : Nat} (hn : s.n ≤ 10000000)
    (hk : K (.agg (nodeV k z a m c x y).toArray) ro (g (.blk q 105 (rsV t (nodeS s))))) :
    CallOk Tryz.prog 66 #[ptr' q, .agg (nodeV k z a m c x y).toArray] ro own K := by
  obtain ⟨r, p1, p2⟩ := hb.split
  refine CallOk.perm p1 ?_
  refine CallOk.intro (args := [_, _]) (rs := [_]) T_ok Tryz.func66 Tryz.call66 rfl rfl (by kernel_rfl) rfl rfl ?_
  repeat (first | exact endA | refine wkP ?_ | refine opB (fun b => ?_) | refine opA (fun a' c' hc1 hc2 => ?_) | (apply GJ.and; exact rfl; intro hg) | (apply GJ.or; exact rfl; intro hg))
  have e1 : (.blk q 105 [str t, .int .i64 (s.p : Int), .int .i64 ((s.n : Int) + 1), .int .i64 (s.e : Int), .int .i64 (s.f : Int)] : Chunk) = .blk q 105 (rsV t { s with n := s.n + 1 }) := rfl
  refine Br.cases (fun h => ?_) (fun h => ?_)
  · rw [nodeS, if_pos (by omega)] at hk
    repeat (first | exact endA | refine wkA ?_ | refine opB (fun b => ?_) | refine opA (fun a' c' hc1 hc2 => ?_) | (apply GJ.and; exact rfl; intro hg) | (apply GJ.or; exact rfl; intro hg))
    rw [e1]
    refine rwrong_ok (t := t) (s := { s with n := s.n + 1 }) 2 s.p rfl rfl ?_
    repeat (first | exact endA | refine wkP ?_ | refine opB (fun b => ?_) | refine opA (fun a' c' hc1 hc2 => ?_) | (apply GJ.and; exact rfl; intro hg) | (apply GJ.or; exact rfl; intro hg))
    exact Wk.outS Sup.auto (p2 _) hk
  · rw [nodeS, if_neg (by omega)] at hk
    repeat (first | exact endA | refine wkP ?_ | refine opB (fun b => ?_) | refine opA (fun a' c' hc1 hc2 => ?_) | (apply GJ.and; exact rfl; intro hg) | (apply GJ.or; exact rfl; intro hg))
    exact Wk.outS Sup.auto (p2 _) hk
theorem digit_ok {s : RS} [hb : HasBlk own q 105 (rsV t s) g] {x : Int} (a : Nat) (hx : x = (a : Int)) (hp : s.p ≤ 10000000) (hk : K (.int .u8 ((digitD t a s).1 : Int)) ro (g (.blk q 105 (rsV t (digitD t a s).2)))) :
    CallOk Tryz.prog 140 #[ptr' q, .int .i64 x] ro own K := by
  obtain ⟨r, p1, p2⟩ := hb.split
  refine CallOk.perm p1 ?_
  have hlt := peek_lt t s
  refine CallOk.intro (args := [_, _]) (rs := [_]) T_ok Tryz.func140 Tryz.call140 rfl rfl (by kernel_rfl) rfl rfl ?_
  repeat (first | exact endA | refine wkA ?_ | refine opB (fun b => ?_) | refine opA (fun a' c' hc1 hc2 => ?_) | (apply GJ.and; exact rfl; intro hg) | (apply GJ.or; exact rfl; intro hg))
  refine peek_ok (t := t) (s := s) ?_
  have e1 : (.blk q 105 [str t, .int .i64 ((s.p : Int) + 1), .int .i64 (s.n : Int), .int .i64 (s.e : Int), .int .i64 (s.f : Int)] : Chunk) = .blk q 105 (rsV t s.adv) := rfl
  unfold digitD at hk
  generalize peekD t s = c at hlt hk ⊢
  by_cases h1 : isDig c = true
  · rw [if_pos h1] at hk
    simp only [isDig, Bool.and_eq_true, decide_eq_true_iff] at h1
    repeat (first | exact endA | refine wkA ?_ | refine opB (fun b => ?_) | refine opA (fun a' c' hc1 hc2 => ?_) | (apply GJ.and; exact rfl; intro hg) | (apply GJ.or; exact rfl; intro hg))
    exact Wk.outE Sup.auto (p2 _) hk (congrArg (Value.int .u8) (by dsimp only; omega))
  · rw [if_neg h1] at hk
    simp only [isDig, Bool.and_eq_true, decide_eq_true_iff] at h1
    by_cases h2 : 97 ≤ c ∧ c ≤ 102
    · rw [if_pos h2] at hk
      repeat (first | exact endA | refine wkA ?_ | refine opB (fun b => ?_) | refine opA (fun a' c' hc1 hc2 => ?_) | (apply GJ.and; exact rfl; intro hg) | (apply GJ.or; exact rfl; intro hg))
      exact Wk.outE Sup.auto (p2 _) hk (congrArg (Value.int .u8) (by dsimp only; omega))
    · rw [if_neg h2] at hk
      repeat (first | exact endA | refine wkA ?_ | refine opB (fun b => ?_) | refine opA (fun a' c' hc1 hc2 => ?_) | (apply GJ.and; exact rfl; intro hg) | (apply GJ.or; exact rfl; intro hg))
      rw [e1]
      refine rwrong_ok (t := t) (s := s.adv) 5 a rfl hx ?_
      repeat (first | exact endA | refine wkA ?_ | refine opB (fun b => ?_) | refine opA (fun a' c' hc1 hc2 => ?_) | (apply GJ.and; exact rfl; intro hg) | (apply GJ.or; exact rfl; intro hg))
      exact Wk.outS Sup.auto (p2 _) hk
end
end Go.Proofs.YtinbmhbfcoiefaaGreatDoor
end
section
/- Contracts of regex: escape, byte. -/
namespace Go.Proofs.YtinbmhbfcoiefaaGreatDoor
open Go Go.E
set_option linter.unusedVariables false
set_option linter.unusedSimpArgs false
set_option maxRecDepth 10000
theorem signsR_all : ∀ c : Nat, c < 256 → decide (0 ≤ firstIdx ⟨⟨signsR⟩⟩ (UInt8.ofNat c)) = (signsR.map (·.toNat)).contains c := by decide +kernel
theorem hexes_or : ∀ a : Nat, a < 16 → ∀ b : Nat, b < 16 → nor2 ((a : Int) * 2 ^ (4 : Int).toNat % 256) (b : Int) = ((16 * a + b : Nat) : Int) := by decide +kernel
theorem digitD_lt {t : List UInt8} {a : Nat} {s : RS} : (digitD t a s).1 < 16 := by
  unfold digitD isDig
  split
  · rename_i h; simp at h; dsimp only; omega
  · split
    · dsimp only; omega
    · show (0 : Nat) < 16; decide
theorem digitD_p {t : List UInt8} {a : Nat} {s : RS} : (digitD t a s).2.p = s.p + 1 := by
  unfold digitD
  split
  · rfl
  · split
    · rfl
    · unfold RS.wrong; split <;> rfl
section
variable {ro : Ro} {own r : Chs} {K : Value → Ro → Chs → Prop} {g : Chunk → Chs} {q : Nat} {t : List UInt8}
theorem containsR_ok {u : UInt8} (hk : K (.bool (decide (0 ≤ firstIdx ⟨⟨signsR⟩⟩ u))) ro own) : CallOk Tryz.prog 131 #[str signsR, str [u]] ro own K := by
  refine CallOk.intro (args := [_, _]) (rs := [_]) T_ok Tryz.func131 Tryz.call131 rfl rfl (by kernel_rfl) rfl rfl ?_
  repeat (first | exact endA | refine wkG ?_ | refine opB (fun b => ?_) | refine opA (fun a' c' hc1 hc2 => ?_) | (show GJ _ _ _ _ _ _ _; first | (apply GJ.and; exact rfl; intro hg) | (apply GJ.or; exact rfl; intro hg) | refine GJ.t omAuto ?_ | refine GJ.f omAuto ?_ | refine GJ.ft omAuto ?_ | refine GJ.ff omAuto ?_))
  refine index_ok (by intro h; cases h) ?_
  repeat (first | exact endA | refine wkG ?_ | refine opB (fun b => ?_) | refine opA (fun a' c' hc1 hc2 => ?_) | (show GJ _ _ _ _ _ _ _; first | (apply GJ.and; exact rfl; intro hg) | (apply GJ.or; exact rfl; intro hg) | refine GJ.t omAuto ?_ | refine GJ.f omAuto ?_ | refine GJ.ft omAuto ?_ | refine GJ.ff omAuto ?_))
  exact Wk.outS Sup.auto (.refl _) hk
set_option maxHeartbeats 4000000 in
theorem escape_ok {s : RS} [hb : HasBlk own q 105 (rsV t s) g] {x : Int} (a : Nat) (hx : x = (a : Int)) (hp : s.p ≤ 1000000) (hk : K (.int .u8 ((escD t a s).1 : Int)) ro (g (.blk q 105 (rsV t (escD t a s).2)))) :
    CallOk Tryz.prog 130 #[ptr' q, .int .i64 x] ro own K := by
  obtain ⟨r, p1, p2⟩ := hb.split
  refine CallOk.perm p1 ?_
  have hlt := peek_lt t s
  refine CallOk.intro (args := [_, _]) (rs := [_]) T_ok Tryz.func130 Tryz.call130 rfl rfl (by kernel_rfl) rfl rfl ?_
  repeat (first | exact endA | refine wkA ?_ | refine opB (fun b => ?_) | refine opA (fun a' c' hc1 hc2 => ?_) | (apply GJ.and; exact rfl; intro hg) | (apply GJ.or; exact rfl; intro hg))
  refine peek_ok (t := t) (s := s) ?_
  have e1 : (.blk q 105 [str t, .int .i64 ((s.p : Int) + 1), .int .i64 (s.n : Int), .int .i64 (s.e : Int), .int .i64 (s.f : Int)] : Chunk) = .blk q 105 (rsV t s.adv) := rfl
  unfold escD at hk
  generalize peekD t s = c at hlt hk ⊢
  by_cases h1 : c = 110
  · rw [if_pos h1] at hk
    repeat (first | exact endA | refine wkP ?_ | refine opB (fun b => ?_) | refine opA (fun a' c' hc1 hc2 => ?_) | (apply GJ.and; exact rfl; intro hg) | (apply GJ.or; exact rfl; intro hg))
    exact Wk.outS Sup.auto (p2 _) hk
  rw [if_neg h1] at hk
  by_cases h2 : c = 114
  · rw [if_pos h2] at hk
    repeat (first | exact endA | refine wkP ?_ | refine opB (fun b => ?_) | refine opA (fun a' c' hc1 hc2 => ?_) | (apply GJ.and; exact rfl; intro hg) | (apply GJ.or; exact rfl; intro hg))
    exact Wk.outS Sup.auto (p2 _) hk
  rw [if_neg h2] at hk
  by_cases h3 : c = 116
  · rw [if_pos h3] at hk
    repeat (first | exact endA | refine wkP ?_ | refine opB (fun b => ?_) | refine opA (fun a' c' hc1 hc2 => ?_) | (apply GJ.and; exact rfl; intro hg) | (apply GJ.or; exact rfl; intro hg))
    exact Wk.outS Sup.auto (p2 _) hk
  rw [if_neg h3] at hk
  by_cases h4 : c = 48
  · rw [if_pos h4] at hk
    repeat (first | exact endA | refine wkP ?_ | refine opB (fun b => ?_) | refine opA (fun a' c' hc1 hc2 => ?_) | (apply GJ.and; exact rfl; intro hg) | (apply GJ.or; exact rfl; intro hg))
    exact Wk.outS Sup.auto (p2 _) hk
  rw [if_neg h4] at hk
  by_cases h5 : c = 120
  · rw [if_pos h5] at hk
    repeat (first | exact endA | refine wkP ?_ | refine opB (fun b => ?_) | refine opA (fun a' c' hc1 hc2 => ?_) | (apply GJ.and; exact rfl; intro hg) | (apply GJ.or; exact rfl; intro hg))
    rw [e1]
    refine digit_ok (t := t) (s := s.adv) a hx (by show s.p + 1 ≤ _; omega) ?_
    repeat (first | exact endA | refine wkP ?_ | refine opB (fun b => ?_) | refine opA (fun a' c' hc1 hc2 => ?_) | (apply GJ.and; exact rfl; intro hg) | (apply GJ.or; exact rfl; intro hg))
    refine digit_ok (t := t) (s := (digitD t a s.adv).2) a hx (by rw [digitD_p]; show s.p + 1 + 1 ≤ _; omega) ?_
    have l1 := digitD_lt (t := t) (a := a) (s := s.adv)
    have l2 := digitD_lt (t := t) (a := a) (s := (digitD t a s.adv).2)
    have l3 := hexes_or _ l1 _ l2
    generalize (digitD t a s.adv).1 = y at l1 l3 hk ⊢
    generalize (digitD t a (digitD t a s.adv).2).1 = z at l2 l3 hk ⊢
    repeat (first | exact endA | refine wkP ?_ | refine opB (fun b => ?_) | refine opA (fun a' c' hc1 hc2 => ?_) | (apply GJ.and; exact rfl; intro hg) | (apply GJ.or; exact rfl; intro hg))
    exact Wk.outE Sup.auto (p2 _) hk (congrArg (Value.int .u8) l3.symm)
  rw [if_neg h5] at hk
  cases hbad : badEsc c with
  | true =>
    rw [hbad, if_pos rfl] at hk
    simp only [badEsc, isDig, Bool.or_eq_true, Bool.and_eq_true, decide_eq_true_iff] at hbad
    repeat (first | exact endA | refine wkP ?_ | refine opB (fun b => ?_) | refine opA (fun a' c' hc1 hc2 => ?_) | (apply GJ.and; exact rfl; intro hg) | (apply GJ.or; exact rfl; intro hg))
    rw [e1]
    refine rwrong_ok (t := t) (s := s.adv) 5 a rfl hx ?_
    repeat (first | exact endA | refine wkP ?_ | refine opB (fun b => ?_) | refine opA (fun a' c' hc1 hc2 => ?_) | (apply GJ.and; exact rfl; intro hg) | (apply GJ.or; exact rfl; intro hg))
    exact Wk.outS Sup.auto (p2 _) hk
  | false =>
    rw [hbad, if_neg (by decide)] at hk
    have hbad : ¬ badEsc c = true := by rw [hbad]; decide
    simp only [badEsc, isDig, Bool.or_eq_true, Bool.and_eq_true, decide_eq_true_iff] at hbad
    repeat (first | exact endA | refine wkP ?_ | refine opB (fun b => ?_) | refine opA (fun a' c' hc1 hc2 => ?_) | (apply GJ.and; exact rfl; intro hg) | (apply GJ.or; exact rfl; intro hg))
    exact Wk.outS Sup.auto (p2 _) hk
theorem escD_p {a : Nat} {s : RS} : (escD t a s).2.p ≤ s.p + 3 := by
  unfold escD
  repeat' split
  all_goals first | (show s.p + 1 ≤ _; omega) | (dsimp only; rw [digitD_p, digitD_p]; show s.p + 1 + 1 + 1 ≤ _; omega) | (dsimp only; unfold RS.wrong; split <;> (show s.p + 1 ≤ _; omega)) | (dsimp only; show s.p + 1 ≤ _; omega)
theorem byteD_p {s : RS} : (byteD t s).2.p ≤ s.p + 4 := by
  unfold byteD
  split
  · have := escD_p (t := t) (a := s.p) (s := s.adv)
    have e : s.adv.p = s.p + 1 := rfl
    omega
  · split
    · dsimp only; unfold RS.wrong; split <;> (first | omega | (dsimp only; omega))
    · show s.p + 1 ≤ _; omega
theorem escD_lt {a : Nat} {s : RS} : (escD t a s).1 < 256 := by
  have l1 := digitD_lt (t := t) (a := a) (s := s.adv)
  have l2 := digitD_lt (t := t) (a := a) (s := (digitD t a s.adv).2)
  have l3 := peek_lt t s
  unfold escD
  repeat' split
  all_goals first | omega | (dsimp only; omega)
theorem byteD_lt {s : RS} : (byteD t s).1 < 256 := by
  have l3 := peek_lt t s
  unfold byteD
  split
  · exact escD_lt
  · split
    · show (0 : Nat) < 256; decide
    · exact l3
set_option maxHeartbeats 4000000 in
theorem byte_ok {s : RS} [hb : HasBlk own q 105 (rsV t s) g] (hp : s.p ≤ 100000) (hk : K (.int .u8 ((byteD t s).1 : Int)) ro (g (.blk q 105 (rsV t (byteD t s).2)))) :
    CallOk Tryz.prog 108 #[ptr' q] ro own K := by
  obtain ⟨r, p1, p2⟩ := hb.split
  refine CallOk.perm p1 ?_
  have hlt := peek_lt t s
  refine CallOk.intro (args := [_]) (rs := [_]) T_ok Tryz.func108 Tryz.call108 rfl rfl (by kernel_rfl) rfl rfl ?_
  repeat (first | exact endA | refine wkP ?_ | refine opB (fun b => ?_) | refine opA (fun a' c' hc1 hc2 => ?_) | (apply GJ.and; exact rfl; intro hg) | (apply GJ.or; exact rfl; intro hg))
  refine peek_ok (t := t) (s := s) ?_
  have e1 : (.blk q 105 [str t, .int .i64 ((s.p : Int) + 1), .int .i64 (s.n : Int), .int .i64 (s.e : Int), .int .i64 (s.f : Int)] : Chunk) = .blk q 105 (rsV t s.adv) := rfl
  unfold byteD at hk
  generalize peekD t s = c at hlt hk ⊢
  by_cases h1 : c = 92
  · rw [if_pos h1] at hk
    repeat (first | exact endA | refine wkP ?_ | refine opB (fun b => ?_) | refine opA (fun a' c' hc1 hc2 => ?_) | (apply GJ.and; exact rfl; intro hg) | (apply GJ.or; exact rfl; intro hg))
    rw [e1]
    refine escape_ok (t := t) (s := s.adv) s.p rfl (by show s.p + 1 ≤ _; omega) ?_
    repeat (first | exact endA | refine wkP ?_ | refine opB (fun b => ?_) | refine opA (fun a' c' hc1 hc2 => ?_) | (apply GJ.and; exact rfl; intro hg) | (apply GJ.or; exact rfl; intro hg))
    exact Wk.outS Sup.auto (p2 _) hk
  rw [if_neg h1] at hk
  obtain ⟨u, hu⟩ : ∃ u : UInt8, u.toNat = c := ⟨UInt8.ofNat c, UInt8.toNat_ofNat_of_lt' hlt⟩
  have hsg := signsR_all c hlt
  rw [← hu, UInt8.ofNat_toNat, hu] at hsg
  unfold badB at hk
  by_cases h2 : c < 32
  · rw [decide_eq_true h2] at hk
    repeat (first | exact endA | refine wkP ?_ | refine opB (fun b => ?_) | refine opA (fun a' c' hc1 hc2 => ?_) | (apply GJ.and; exact rfl; intro hg) | (apply GJ.or; exact rfl; intro hg))
    refine rwrong_ok (t := t) (s := s) 5 s.p rfl rfl ?_
    repeat (first | exact endA | refine wkP ?_ | refine opB (fun b => ?_) | refine opA (fun a' c' hc1 hc2 => ?_) | (apply GJ.and; exact rfl; intro hg) | (apply GJ.or; exact rfl; intro hg))
    exact Wk.outS Sup.auto (p2 _) hk
  rw [decide_eq_false h2] at hk
  by_cases h3 : 126 < c
  · rw [decide_eq_true h3] at hk
    repeat (first | exact endA | refine wkP ?_ | refine opB (fun b => ?_) | refine opA (fun a' c' hc1 hc2 => ?_) | (apply GJ.and; exact rfl; intro hg) | (apply GJ.or; exact rfl; intro hg))
    refine rwrong_ok (t := t) (s := s) 5 s.p rfl rfl ?_
    repeat (first | exact endA | refine wkP ?_ | refine opB (fun b => ?_) | refine opA (fun a' c' hc1 hc2 => ?_) | (apply GJ.and; exact rfl; intro hg) | (apply GJ.or; exact rfl; intro hg))
    exact Wk.outS Sup.auto (p2 _) hk
  rw [decide_eq_false h3, Bool.false_or, Bool.false_or, ← hsg] at hk
  repeat (first | exact endA | refine wkP ?_ | refine opB (fun b => ?_) | refine opA (fun a' c' hc1 hc2 => ?_) | (apply GJ.and; exact rfl; intro hg) | (apply GJ.or; exact rfl; intro hg))
  subst hu
  refine OpOk.toStr (l := [u]) rfl rfl rfl rfl (Rds.hasSl (cs := [u8 u]) (by omega) (by decide) rfl) ?_
  repeat (first | exact endA | refine wkP ?_ | refine opB (fun b => ?_) | refine opA (fun a' c' hc1 hc2 => ?_) | (apply GJ.and; exact rfl; intro hg) | (apply GJ.or; exact rfl; intro hg))
  refine containsR_ok ?_
  generalize decide (0 ≤ firstIdx ⟨⟨signsR⟩⟩ u) = d at hk ⊢
  cases d with
  | true =>
    repeat (first | exact endA | refine wkP ?_ | refine opB (fun b => ?_) | refine opA (fun a' c' hc1 hc2 => ?_) | (apply GJ.and; exact rfl; intro hg) | (apply GJ.or; exact rfl; intro hg))
    refine rwrong_ok (t := t) (s := s) 5 s.p rfl rfl ?_
    repeat (first | exact endA | refine wkP ?_ | refine opB (fun b => ?_) | refine opA (fun a' c' hc1 hc2 => ?_) | (apply GJ.and; exact rfl; intro hg) | (apply GJ.or; exact rfl; intro hg))
    exact Wk.outS Sup.auto (p2 _) hk
  | false =>
    repeat (first | exact endA | refine wkP ?_ | refine opB (fun b => ?_) | refine opA (fun a' c' hc1 hc2 => ?_) | (apply GJ.and; exact rfl; intro hg) | (apply GJ.or; exact rfl; intro hg))
    exact Wk.outS Sup.auto (p2 _) hk
end
end Go.Proofs.YtinbmhbfcoiefaaGreatDoor
end
section
/- Contracts of regex: set. -/
namespace Go.Proofs.YtinbmhbfcoiefaaGreatDoor
open Go Go.E
set_option linter.unusedVariables false
set_option linter.unusedSimpArgs false
set_option maxRecDepth 10000
theorem pairD_lt {t : List UInt8} {s : RS} : (pairD t s).1.1 < 256 ∧ (pairD t s).1.2 < 256 := by
  unfold pairD
  split
  · exact ⟨byteD_lt, byteD_lt⟩
  · exact ⟨byteD_lt, byteD_lt⟩
theorem setL_stop {t : List UInt8} {a k : Nat} {z : SetD} {s : RS} (h : s.e ≠ 0) : setL t a k z s = (z, s) := by
  cases k with
  | zero => rfl
  | succ k => rw [setL, if_neg (fun x => h x.1)]
theorem setL_in {t : List UInt8} {a : Nat} : ∀ {k : Nat} {z : SetD} {s : RS}, SetIn z → SetIn (setL t a k z s).1
  | 0, z, s, h => h
  | k + 1, z, s, h => by
    rw [setL]
    split
    · split
      · exact h
      · exact setL_in (h.or (range_in _ _))
    · exact h
/-- A round of the reading of pairs goes on. -/
theorem pair_more {t : List UInt8} {s : RS} (h : Inv t s) (h0 : s.e = 0) : (pairD t s).2.e = 0 → s.p + 1 ≤ (pairD t s).2.p := by
  intro he
  obtain ⟨l, ⟨r1, r2⟩, _⟩ := pair_sound he
  rw [r1]
  show s.p + 1 ≤ s.p + l.length
  by_cases hl : l = []
  · subst hl
    exfalso
    have : (byteD t s).2.e = 0 := by
      unfold pairD at he
      split at he
      · exact back_e (f := fun s => byteD t s) (fun h => byte_keep h) (s := (byteD t s).2.adv) he
      · exact he
    obtain ⟨m, ⟨b1, b2⟩, hb⟩ := byte_sound this
    obtain ⟨x, q, hx, _⟩ := hb.head
    have h1 : (byteD t s).2.p ≤ (pairD t s).2.p := by
      unfold pairD at he ⊢
      split
      · rename_i e
        rw [if_pos e] at he
        obtain ⟨m2, ⟨c1, c2⟩, _⟩ := byte_sound he
        rw [c1]; show (byteD t s).2.p ≤ (byteD t s).2.p + 1 + m2.length; omega
      · exact Nat.le_refl _
    rw [r1, b1] at h1
    have h1 : s.p + m.length ≤ s.p + 0 := h1
    subst hx
    simp at h1
    omega
  · have : 0 < l.length := List.length_pos_iff.2 hl
    omega
section
variable {ro : Ro} {own r : Chs} {K : Value → Ro → Chs → Prop} {g : Chunk → Chs} {q : Nat} {t : List UInt8}
theorem rangeD_ok {x y : Nat} (hx : x < 256) (hy : y < 256) (hk : K (.agg (setV (rangeD x y)).toArray) ro own) : CallOk Tryz.prog 129 #[.int .u8 (x : Int), .int .u8 (y : Int)] ro own K :=
  range_ok hx hy fun s h1 h2 => by
    have : s = rangeD x y := SetD.ext h1 (range_in x y) fun c hc => by rw [h2 c hc, range_has x y hc]
    rw [this]; exact hk
set_option maxHeartbeats 8000000 in
theorem set_ok {s : RS} [hb : HasBlk own q 105 (rsV t s) g] {x : Int} (a : Nat) (hx : x = (a : Int)) (ha : a ≤ t.length) (hi : Inv t s) (h0 : s.e = 0) (hl : t.length ≤ 10000) (hk : K (.agg (setV (setD t a s).1).toArray) ro (g (.blk q 105 (rsV t (setD t a s).2)))) :
    CallOk Tryz.prog 106 #[ptr' q, .int .i64 x] ro own K := by
  subst hx
  obtain ⟨r, p1, p2⟩ := hb.split
  refine CallOk.perm p1 ?_
  have hip := hi.p
  refine CallOk.intro (args := [_, _]) (rs := [_]) T_ok Tryz.func106 Tryz.call106 rfl rfl (by kernel_rfl) rfl rfl ?_
  repeat (first | exact endA | refine wkP ?_ | refine opB (fun b => ?_) | refine opA (fun a' c' hc1 hc2 => ?_) | (apply GJ.and; exact rfl; intro hg) | (apply GJ.or; exact rfl; intro hg))
  obtain ⟨b1, hb1⟩ : ∃ z : Nat, z = b := ⟨_, rfl⟩
  subst hb1
  refine eat_ok (t := t) (s := s) 94 rfl (by decide) (by omega) ?_
  have hi1 : Inv t (eatS t 94 s) := hi.eat (by decide)
  have h01 : (eatS t 94 s).e = 0 := by rw [eat_keep]; exact h0
  obtain ⟨R, hR⟩ : ∃ R, R = setL t a (t.length + 1) zeroS (eatS t 94 s) := ⟨_, rfl⟩
  have hRin : SetIn R.1 := by rw [hR]; exact setL_in zeroS_in
  unfold setD at hk
  dsimp only at hk
  rw [← hR] at hk
  generalize eatS t 94 s = s0 at hi1 h01 hR
  generalize decide (peekD t s = 94) = tb at hk ⊢
  have hfin : ∀ z s2, R = (z, s2) → Inv t s2 → s2.p ≤ 10000000 := fun z s2 _ h => by have := h.p; omega
  repeat (first | exact endA | refine wkP ?_ | refine opB (fun b => ?_) | refine opA (fun a' c' hc1 hc2 => ?_) | (apply GJ.and; exact rfl; intro hg) | (apply GJ.or; exact rfl; intro hg))
  obtain ⟨b2, hb2⟩ : ∃ z : Nat, z = b := ⟨_, rfl⟩
  subst hb2
  refine LoopOk.at (ι := Nat × SetD × RS) Keep.auto (fun (k, z, s1) => []) (fun (k, z, s1) => .blk b2 116 (setV z) :: .blk b1 116 (setV zeroS) :: .blk q 105 (rsV t s1) :: r) (fun (k, z, s1) => setL t a k z s1 = R ∧ SetIn z ∧ Inv t s1 ∧ (s1.e = 0 → t.length + 1 ≤ k + s1.p)) (fun (k, z, s1) => k) (t.length + 1, zeroS, s0) ?_ Sub.auto Sup.auto ?_
  · exact ⟨hR.symm, zeroS_in, hi1, fun _ => by omega⟩
  rintro ⟨k, z, s1⟩ ⟨i1, i2, i3, i4⟩
  dsimp only [List.cons_append, List.nil_append] at i1 i2 i3 i4 ⊢
  have hp1 := i3.p
  repeat (first | exact endA | refine wkP ?_ | refine opB (fun b => ?_) | refine opA (fun a' c' hc1 hc2 => ?_) | (apply GJ.and; exact rfl; intro hg) | (apply GJ.or; exact rfl; intro hg))
  refine rok_ok (t := t) (s := s1) ?_
  by_cases he : ¬ s1.e = 0
  · have hRz : R = (z, s1) := i1.symm.trans (setL_stop he)
    rw [decide_eq_false (show ¬ (s1.e : Int) = 0 by omega)]
    repeat (first | exact endA | refine wkP ?_ | refine opB (fun b => ?_) | refine opA (fun a' c' hc1 hc2 => ?_) | (apply GJ.and; exact rfl; intro hg) | (apply GJ.or; exact rfl; intro hg))
    refine must_ok (t := t) (s := s1) 93 rfl (by decide) (hfin _ _ hRz i3) ?_
    rw [hRz] at hk hRin
    dsimp only at hk hRin
    generalize mustS t 93 s1 = s5 at hk ⊢
    have hzin : SetIn (turnD tb z) := by
      cases tb with
      | true => exact SetIn.not _
      | false => exact hRin
    have hck : K (.agg (setV (turnD tb z)).toArray) ro (g (.blk q 105 (rsV t (if s5.e = 0 ∧ turnD tb z = zeroS then s5.wrong 160 a else s5)))) := hk
    cases tb with
    | true =>
      rw [show turnD true z = SetD.not z from rfl] at hck
      repeat (first | exact endA | refine wkP ?_ | refine opB (fun b => ?_) | refine opA (fun a' c' hc1 hc2 => ?_) | (apply GJ.and; exact rfl; intro hg) | (apply GJ.or; exact rfl; intro hg))
      refine not_ok hRin ?_
      repeat (first | exact endA | refine wkP ?_ | refine opB (fun b => ?_) | refine opA (fun a' c' hc1 hc2 => ?_) | (apply GJ.and; exact rfl; intro hg) | (apply GJ.or; exact rfl; intro hg))
      refine rok_ok (t := t) (s := s5) ?_
      by_cases he5 : s5.e = 0
      · rw [decide_eq_true (show (s5.e : Int) = 0 by omega)]
        repeat (first | exact endA | refine wkP ?_ | refine opB (fun b => ?_) | refine opA (fun a' c' hc1 hc2 => ?_) | (apply GJ.and; exact rfl; intro hg) | (apply GJ.or; exact rfl; intro hg))
        refine check_ok ?_
        by_cases hz0 : SetD.not z = zeroS
        · rw [if_pos ⟨he5, hz0⟩] at hck
          rw [if_pos (show SetD.not z = ⟨0, 0, 0, 0⟩ from hz0)]
          repeat (first | exact endA | refine wkP ?_ | refine opB (fun b => ?_) | refine opA (fun a' c' hc1 hc2 => ?_) | (apply GJ.and; exact rfl; intro hg) | (apply GJ.or; exact rfl; intro hg))
          refine rwrong_ok (t := t) (s := s5) 160 a rfl rfl ?_
          repeat (first | exact endA | refine wkP ?_ | refine opB (fun b => ?_) | refine opA (fun a' c' hc1 hc2 => ?_) | (apply GJ.and; exact rfl; intro hg) | (apply GJ.or; exact rfl; intro hg))
          exact Wk.outS Sup.auto (p2 _) hck
        · rw [if_neg (fun x => hz0 x.2)] at hck
          rw [if_neg (show ¬ SetD.not z = ⟨0, 0, 0, 0⟩ from hz0)]
          repeat (first | exact endA | refine wkP ?_ | refine opB (fun b => ?_) | refine opA (fun a' c' hc1 hc2 => ?_) | (apply GJ.and; exact rfl; intro hg) | (apply GJ.or; exact rfl; intro hg))
          exact Wk.outS Sup.auto (p2 _) hck
      · rw [decide_eq_false (show ¬ (s5.e : Int) = 0 by omega)]
        rw [if_neg (fun x => he5 x.1)] at hck
        repeat (first | exact endA | refine wkP ?_ | refine opB (fun b => ?_) | refine opA (fun a' c' hc1 hc2 => ?_) | (apply GJ.and; exact rfl; intro hg) | (apply GJ.or; exact rfl; intro hg))
        exact Wk.outS Sup.auto (p2 _) hck
    | false =>
      rw [show turnD false z = z from rfl] at hck
      repeat (first | exact endA | refine wkP ?_ | refine opB (fun b => ?_) | refine opA (fun a' c' hc1 hc2 => ?_) | (apply GJ.and; exact rfl; intro hg) | (apply GJ.or; exact rfl; intro hg))
      refine rok_ok (t := t) (s := s5) ?_
      by_cases he5 : s5.e = 0
      · rw [decide_eq_true (show (s5.e : Int) = 0 by omega)]
        repeat (first | exact endA | refine wkP ?_ | refine opB (fun b => ?_) | refine opA (fun a' c' hc1 hc2 => ?_) | (apply GJ.and; exact rfl; intro hg) | (apply GJ.or; exact rfl; intro hg))
        refine check_ok ?_
        by_cases hz0 : z = zeroS
        · rw [if_pos ⟨he5, hz0⟩] at hck
          rw [if_pos (show z = ⟨0, 0, 0, 0⟩ from hz0)]
          repeat (first | exact endA | refine wkP ?_ | refine opB (fun b => ?_) | refine opA (fun a' c' hc1 hc2 => ?_) | (apply GJ.and; exact rfl; intro hg) | (apply GJ.or; exact rfl; intro hg))
          refine rwrong_ok (t := t) (s := s5) 160 a rfl rfl ?_
          repeat (first | exact endA | refine wkP ?_ | refine opB (fun b => ?_) | refine opA (fun a' c' hc1 hc2 => ?_) | (apply GJ.and; exact rfl; intro hg) | (apply GJ.or; exact rfl; intro hg))
          exact Wk.outS Sup.auto (p2 _) hck
        · rw [if_neg (fun x => hz0 x.2)] at hck
          rw [if_neg (show ¬ z = ⟨0, 0, 0, 0⟩ from hz0)]
          repeat (first | exact endA | refine wkP ?_ | refine opB (fun b => ?_) | refine opA (fun a' c' hc1 hc2 => ?_) | (apply GJ.and; exact rfl; intro hg) | (apply GJ.or; exact rfl; intro hg))
          exact Wk.outS Sup.auto (p2 _) hck
      · rw [decide_eq_false (show ¬ (s5.e : Int) = 0 by omega)]
        rw [if_neg (fun x => he5 x.1)] at hck
        repeat (first | exact endA | refine wkP ?_ | refine opB (fun b => ?_) | refine opA (fun a' c' hc1 hc2 => ?_) | (apply GJ.and; exact rfl; intro hg) | (apply GJ.or; exact rfl; intro hg))
        exact Wk.outS Sup.auto (p2 _) hck
  have he := Decidable.of_not_not he
  rw [decide_eq_true (show (s1.e : Int) = 0 by omega)]
  have h4 := i4 he
  have h5 := i3.p0 he
  obtain ⟨k, rfl⟩ : ∃ j, k = j + 1 := ⟨k - 1, by omega⟩
  rw [setL] at i1
  repeat (first | exact endA | refine wkP ?_ | refine opB (fun b => ?_) | refine opA (fun a' c' hc1 hc2 => ?_) | (apply GJ.and; exact rfl; intro hg) | (apply GJ.or; exact rfl; intro hg))
  refine peek_ok (t := t) (s := s1) ?_
  by_cases h93 : peekD t s1 = 93
  · rw [if_neg (fun x => x.2 h93)] at i1
    have hRz : R = (z, s1) := i1.symm
    rw [h93]
    repeat (first | exact endA | refine wkP ?_ | refine opB (fun b => ?_) | refine opA (fun a' c' hc1 hc2 => ?_) | (apply GJ.and; exact rfl; intro hg) | (apply GJ.or; exact rfl; intro hg))
    refine must_ok (t := t) (s := s1) 93 rfl (by decide) (hfin _ _ hRz i3) ?_
    rw [hRz] at hk hRin
    dsimp only at hk hRin
    generalize mustS t 93 s1 = s5 at hk ⊢
    have hzin : SetIn (turnD tb z) := by
      cases tb with
      | true => exact SetIn.not _
      | false => exact hRin
    have hck : K (.agg (setV (turnD tb z)).toArray) ro (g (.blk q 105 (rsV t (if s5.e = 0 ∧ turnD tb z = zeroS then s5.wrong 160 a else s5)))) := hk
    cases tb with
    | true =>
      rw [show turnD true z = SetD.not z from rfl] at hck
      repeat (first | exact endA | refine wkP ?_ | refine opB (fun b => ?_) | refine opA (fun a' c' hc1 hc2 => ?_) | (apply GJ.and; exact rfl; intro hg) | (apply GJ.or; exact rfl; intro hg))
      refine not_ok hRin ?_
      repeat (first | exact endA | refine wkP ?_ | refine opB (fun b => ?_) | refine opA (fun a' c' hc1 hc2 => ?_) | (apply GJ.and; exact rfl; intro hg) | (apply GJ.or; exact rfl; intro hg))
      refine rok_ok (t := t) (s := s5) ?_
      by_cases he5 : s5.e = 0
      · rw [decide_eq_true (show (s5.e : Int) = 0 by omega)]
        repeat (first | exact endA | refine wkP ?_ | refine opB (fun b => ?_) | refine opA (fun a' c' hc1 hc2 => ?_) | (apply GJ.and; exact rfl; intro hg) | (apply GJ.or; exact rfl; intro hg))
        refine check_ok ?_
        by_cases hz0 : SetD.not z = zeroS
        · rw [if_pos ⟨he5, hz0⟩] at hck
          rw [if_pos (show SetD.not z = ⟨0, 0, 0, 0⟩ from hz0)]
          repeat (first | exact endA | refine wkP ?_ | refine opB (fun b => ?_) | refine opA (fun a' c' hc1 hc2 => ?_) | (apply GJ.and; exact rfl; intro hg) | (apply GJ.or; exact rfl; intro hg))
          refine rwrong_ok (t := t) (s := s5) 160 a rfl rfl ?_
          repeat (first | exact endA | refine wkP ?_ | refine opB (fun b => ?_) | refine opA (fun a' c' hc1 hc2 => ?_) | (apply GJ.and; exact rfl; intro hg) | (apply GJ.or; exact rfl; intro hg))
          exact Wk.outS Sup.auto (p2 _) hck
        · rw [if_neg (fun x => hz0 x.2)] at hck
          rw [if_neg (show ¬ SetD.not z = ⟨0, 0, 0, 0⟩ from hz0)]
          repeat (first | exact endA | refine wkP ?_ | refine opB (fun b => ?_) | refine opA (fun a' c' hc1 hc2 => ?_) | (apply GJ.and; exact rfl; intro hg) | (apply GJ.or; exact rfl; intro hg))
          exact Wk.outS Sup.auto (p2 _) hck
      · rw [decide_eq_false (show ¬ (s5.e : Int) = 0 by omega)]
        rw [if_neg (fun x => he5 x.1)] at hck
        repeat (first | exact endA | refine wkP ?_ | refine opB (fun b => ?_) | refine opA (fun a' c' hc1 hc2 => ?_) | (apply GJ.and; exact rfl; intro hg) | (apply GJ.or; exact rfl; intro hg))
        exact Wk.outS Sup.auto (p2 _) hck
    | false =>
      rw [show turnD false z = z from rfl] at hck
      repeat (first | exact endA | refine wkP ?_ | refine opB (fun b => ?_) | refine opA (fun a' c' hc1 hc2 => ?_) | (apply GJ.and; exact rfl; intro hg) | (apply GJ.or; exact rfl; intro hg))
      refine rok_ok (t := t) (s := s5) ?_
      by_cases he5 : s5.e = 0
      · rw [decide_eq_true (show (s5.e : Int) = 0 by omega)]
        repeat (first | exact endA | refine wkP ?_ | refine opB (fun b => ?_) | refine opA (fun a' c' hc1 hc2 => ?_) | (apply GJ.and; exact rfl; intro hg) | (apply GJ.or; exact rfl; intro hg))
        refine check_ok ?_
        by_cases hz0 : z = zeroS
        · rw [if_pos ⟨he5, hz0⟩] at hck
          rw [if_pos (show z = ⟨0, 0, 0, 0⟩ from hz0)]
          repeat (first | exact endA | refine wkP ?_ | refine opB (fun b => ?_) | refine opA (fun a' c' hc1 hc2 => ?_) | (apply GJ.and; exact rfl; intro hg) | (apply GJ.or; exact rfl; intro hg))
          refine rwrong_ok (t := t) (s := s5) 160 a rfl rfl ?_
          repeat (first | exact endA | refine wkP ?_ | refine opB (fun b => ?_) | refine opA (fun a' c' hc1 hc2 => ?_) | (apply GJ.and; exact rfl; intro hg) | (apply GJ.or; exact rfl; intro hg))
          exact Wk.outS Sup.auto (p2 _) hck
        · rw [if_neg (fun x => hz0 x.2)] at hck
          rw [if_neg (show ¬ z = ⟨0, 0, 0, 0⟩ from hz0)]
          repeat (first | exact endA | refine wkP ?_ | refine opB (fun b => ?_) | refine opA (fun a' c' hc1 hc2 => ?_) | (apply GJ.and; exact rfl; intro hg) | (apply GJ.or; exact rfl; intro hg))
          exact Wk.outS Sup.auto (p2 _) hck
      · rw [decide_eq_false (show ¬ (s5.e : Int) = 0 by omega)]
        rw [if_neg (fun x => he5 x.1)] at hck
        repeat (first | exact endA | refine wkP ?_ | refine opB (fun b => ?_) | refine opA (fun a' c' hc1 hc2 => ?_) | (apply GJ.and; exact rfl; intro hg) | (apply GJ.or; exact rfl; intro hg))
        exact Wk.outS Sup.auto (p2 _) hck
  rw [if_pos ⟨he, h93⟩] at i1
  repeat (first | exact endA | refine wkP ?_ | refine opB (fun b => ?_) | refine opA (fun a' c' hc1 hc2 => ?_) | (apply GJ.and; exact rfl; intro hg) | (apply GJ.or; exact rfl; intro hg))
  refine peek_ok (t := t) (s := s1) ?_
  by_cases hz : peekD t s1 = 0
  · rw [if_pos hz] at i1
    have hRz : R = (z, s1.wrong 5 s1.p) := i1.symm
    have hiw : Inv t (s1.wrong 5 s1.p) := i3.wrong (.inr (.inr (.inl rfl))) (fun _ => h5)
    rw [hz]
    repeat (first | exact endA | refine wkP ?_ | refine opB (fun b => ?_) | refine opA (fun a' c' hc1 hc2 => ?_) | (apply GJ.and; exact rfl; intro hg) | (apply GJ.or; exact rfl; intro hg))
    refine rwrong_ok (t := t) (s := s1) 5 s1.p rfl rfl ?_
    generalize s1.wrong 5 s1.p = s4 at hRz hiw ⊢
    repeat (first | exact endA | refine wkP ?_ | refine opB (fun b => ?_) | refine opA (fun a' c' hc1 hc2 => ?_) | (apply GJ.and; exact rfl; intro hg) | (apply GJ.or; exact rfl; intro hg))
    refine must_ok (t := t) (s := s4) 93 rfl (by decide) (hfin _ _ hRz hiw) ?_
    rw [hRz] at hk hRin
    dsimp only at hk hRin
    generalize mustS t 93 s4 = s5 at hk ⊢
    have hzin : SetIn (turnD tb z) := by
      cases tb with
      | true => exact SetIn.not _
      | false => exact hRin
    have hck : K (.agg (setV (turnD tb z)).toArray) ro (g (.blk q 105 (rsV t (if s5.e = 0 ∧ turnD tb z = zeroS then s5.wrong 160 a else s5)))) := hk
    cases tb with
    | true =>
      rw [show turnD true z = SetD.not z from rfl] at hck
      repeat (first | exact endA | refine wkP ?_ | refine opB (fun b => ?_) | refine opA (fun a' c' hc1 hc2 => ?_) | (apply GJ.and; exact rfl; intro hg) | (apply GJ.or; exact rfl; intro hg))
      refine not_ok hRin ?_
      repeat (first | exact endA | refine wkP ?_ | refine opB (fun b => ?_) | refine opA (fun a' c' hc1 hc2 => ?_) | (apply GJ.and; exact rfl; intro hg) | (apply GJ.or; exact rfl; intro hg))
      refine rok_ok (t := t) (s := s5) ?_
      by_cases he5 : s5.e = 0
      · rw [decide_eq_true (show (s5.e : Int) = 0 by omega)]
        repeat (first | exact endA | refine wkP ?_ | refine opB (fun b => ?_) | refine opA (fun a' c' hc1 hc2 => ?_) | (apply GJ.and; exact rfl; intro hg) | (apply GJ.or; exact rfl; intro hg))
        refine check_ok ?_
        by_cases hz0 : SetD.not z = zeroS
        · rw [if_pos ⟨he5, hz0⟩] at hck
          rw [if_pos (show SetD.not z = ⟨0, 0, 0, 0⟩ from hz0)]
          repeat (first | exact endA | refine wkP ?_ | refine opB (fun b => ?_) | refine opA (fun a' c' hc1 hc2 => ?_) | (apply GJ.and; exact rfl; intro hg) | (apply GJ.or; exact rfl; intro hg))
          refine rwrong_ok (t := t) (s := s5) 160 a rfl rfl ?_
          repeat (first | exact endA | refine wkP ?_ | refine opB (fun b => ?_) | refine opA (fun a' c' hc1 hc2 => ?_) | (apply GJ.and; exact rfl; intro hg) | (apply GJ.or; exact rfl; intro hg))
          exact Wk.outS Sup.auto (p2 _) hck
        · rw [if_neg (fun x => hz0 x.2)] at hck
          rw [if_neg (show ¬ SetD.not z = ⟨0, 0, 0, 0⟩ from hz0)]
          repeat (first | exact endA | refine wkP ?_ | refine opB (fun b => ?_) | refine opA (fun a' c' hc1 hc2 => ?_) | (apply GJ.and; exact rfl; intro hg) | (apply GJ.or; exact rfl; intro hg))
          exact Wk.outS Sup.auto (p2 _) hck
      · rw [decide_eq_false (show ¬ (s5.e : Int) = 0 by omega)]
        rw [if_neg (fun x => he5 x.1)] at hck
        repeat (first | exact endA | refine wkP ?_ | refine opB (fun b => ?_) | refine opA (fun a' c' hc1 hc2 => ?_) | (apply GJ.and; exact rfl; intro hg) | (apply GJ.or; exact rfl; intro hg))
        exact Wk.outS Sup.auto (p2 _) hck
    | false =>
      rw [show turnD false z = z from rfl] at hck
      repeat (first | exact endA | refine wkP ?_ | refine opB (fun b => ?_) | refine opA (fun a' c' hc1 hc2 => ?_) | (apply GJ.and; exact rfl; intro hg) | (apply GJ.or; exact rfl; intro hg))
      refine rok_ok (t := t) (s := s5) ?_
      by_cases he5 : s5.e = 0
      · rw [decide_eq_true (show (s5.e : Int) = 0 by omega)]
        repeat (first | exact endA | refine wkP ?_ | refine opB (fun b => ?_) | refine opA (fun a' c' hc1 hc2 => ?_) | (apply GJ.and; exact rfl; intro hg) | (apply GJ.or; exact rfl; intro hg))
        refine check_ok ?_
        by_cases hz0 : z = zeroS
        · rw [if_pos ⟨he5, hz0⟩] at hck
          rw [if_pos (show z = ⟨0, 0, 0, 0⟩ from hz0)]
          repeat (first | exact endA | refine wkP ?_ | refine opB (fun b => ?_) | refine opA (fun a' c' hc1 hc2 => ?_) | (apply GJ.and; exact rfl; intro hg) | (apply GJ.or; exact rfl; intro hg))
          refine rwrong_ok (t := t) (s := s5) 160 a rfl rfl ?_
          repeat (first | exact endA | refine wkP ?_ | refine opB (fun b => ?_) | refine opA (fun a' c' hc1 hc2 => ?_) | (apply GJ.and; exact rfl; intro hg) | (apply GJ.or; exact rfl; intro hg))
          exact Wk.outS Sup.auto (p2 _) hck
        · rw [if_neg (fun x => hz0 x.2)] at hck
          rw [if_neg (show ¬ z = ⟨0, 0, 0, 0⟩ from hz0)]
          repeat (first | exact endA | refine wkP ?_ | refine opB (fun b => ?_) | refine opA (fun a' c' hc1 hc2 => ?_) | (apply GJ.and; exact rfl; intro hg) | (apply GJ.or; exact rfl; intro hg))
          exact Wk.outS Sup.auto (p2 _) hck
      · rw [decide_eq_false (show ¬ (s5.e : Int) = 0 by omega)]
        rw [if_neg (fun x => he5 x.1)] at hck
        repeat (first | exact endA | refine wkP ?_ | refine opB (fun b => ?_) | refine opA (fun a' c' hc1 hc2 => ?_) | (apply GJ.and; exact rfl; intro hg) | (apply GJ.or; exact rfl; intro hg))
        exact Wk.outS Sup.auto (p2 _) hck
  rw [if_neg hz] at i1
  repeat (first | exact endA | refine wkP ?_ | refine opB (fun b => ?_) | refine opA (fun a' c' hc1 hc2 => ?_) | (apply GJ.and; exact rfl; intro hg) | (apply GJ.or; exact rfl; intro hg))
  refine byte_ok (t := t) (s := s1) (by omega) ?_
  repeat (first | exact endA | refine wkP ?_ | refine opB (fun b => ?_) | refine opA (fun a' c' hc1 hc2 => ?_) | (apply GJ.and; exact rfl; intro hg) | (apply GJ.or; exact rfl; intro hg))
  refine eat_ok (t := t) (s := (byteD t s1).2) 45 rfl (by decide) (by have := byteD_p (t := t) (s := s1); omega) ?_
  have hmore := pair_more i3 he
  have hi3 := i3.pair
  obtain ⟨hc2, hd2⟩ := pairD_lt (t := t) (s := s1)
  by_cases h45 : peekD t (byteD t s1).2 = 45
  · have e1 : pairD t s1 = (((byteD t s1).1, (byteD t (byteD t s1).2.adv).1), (byteD t (byteD t s1).2.adv).2) := by unfold pairD; rw [if_pos h45]
    rw [decide_eq_true h45, eatS, if_pos h45]
    repeat (first | exact endA | refine wkP ?_ | refine opB (fun b => ?_) | refine opA (fun a' c' hc1 hc2 => ?_) | (apply GJ.and; exact rfl; intro hg) | (apply GJ.or; exact rfl; intro hg))
    refine byte_ok (t := t) (s := (byteD t s1).2.adv) (by have := byteD_p (t := t) (s := s1); show (byteD t s1).2.p + 1 ≤ _; omega) ?_
    rw [e1] at i1 hmore hi3 hc2 hd2
    dsimp only at i1 hmore hi3 hc2 hd2
    generalize (byteD t (byteD t s1).2.adv).2 = s3 at i1 hmore hi3 ⊢
    generalize (byteD t (byteD t s1).2.adv).1 = d2 at i1 hd2 ⊢
    generalize (byteD t s1).1 = c2 at i1 hc2 ⊢
    repeat (first | exact endA | refine wkP ?_ | refine opB (fun b => ?_) | refine opA (fun a' c' hc1 hc2 => ?_) | (apply GJ.and; exact rfl; intro hg) | (apply GJ.or; exact rfl; intro hg))
    by_cases hlt : d2 < c2
    · rw [if_pos hlt] at i1
      repeat (first | exact endA | refine wkP ?_ | refine opB (fun b => ?_) | refine opA (fun a' c' hc1 hc2 => ?_) | (apply GJ.and; exact rfl; intro hg) | (apply GJ.or; exact rfl; intro hg))
      refine rwrong_ok (t := t) (s := s3) 1 a rfl rfl ?_
      repeat (first | exact endA | refine wkP ?_ | refine opB (fun b => ?_) | refine opA (fun a' c' hc1 hc2 => ?_) | (apply GJ.and; exact rfl; intro hg) | (apply GJ.or; exact rfl; intro hg))
      refine rangeD_ok hc2 hd2 ?_
      repeat (first | exact endA | refine wkP ?_ | refine opB (fun b => ?_) | refine opA (fun a' c' hc1 hc2 => ?_) | (apply GJ.and; exact rfl; intro hg) | (apply GJ.or; exact rfl; intro hg))
      refine or_ok i2 (range_in c2 d2) ?_
      repeat (first | exact endA | refine wkP ?_ | refine opB (fun b => ?_) | refine opA (fun a' c' hc1 hc2 => ?_) | (apply GJ.and; exact rfl; intro hg) | (apply GJ.or; exact rfl; intro hg))
      refine Wk.id ⟨(k, z.or (rangeD c2 d2), s3.wrong 1 a), ⟨rfl, ?_⟩, ?_, Sub.auto, Sup.auto⟩
      all_goals try dsimp only
      · exact ⟨i1, i2.or (range_in _ _), hi3.wrong (.inl rfl) (fun _ => ha), fun h => (wrong_ne (by decide) h).elim⟩
      · omega
    · rw [if_neg hlt] at i1
      repeat (first | exact endA | refine wkP ?_ | refine opB (fun b => ?_) | refine opA (fun a' c' hc1 hc2 => ?_) | (apply GJ.and; exact rfl; intro hg) | (apply GJ.or; exact rfl; intro hg))
      refine rangeD_ok hc2 hd2 ?_
      repeat (first | exact endA | refine wkP ?_ | refine opB (fun b => ?_) | refine opA (fun a' c' hc1 hc2 => ?_) | (apply GJ.and; exact rfl; intro hg) | (apply GJ.or; exact rfl; intro hg))
      refine or_ok i2 (range_in c2 d2) ?_
      repeat (first | exact endA | refine wkP ?_ | refine opB (fun b => ?_) | refine opA (fun a' c' hc1 hc2 => ?_) | (apply GJ.and; exact rfl; intro hg) | (apply GJ.or; exact rfl; intro hg))
      refine Wk.id ⟨(k, z.or (rangeD c2 d2), s3), ⟨rfl, ?_⟩, ?_, Sub.auto, Sup.auto⟩
      all_goals try dsimp only
      · exact ⟨i1, i2.or (range_in _ _), hi3, fun h => by have := hmore h; omega⟩
      · omega
  · have e1 : pairD t s1 = (((byteD t s1).1, (byteD t s1).1), (byteD t s1).2) := by unfold pairD; rw [if_neg h45]
    rw [decide_eq_false h45, eatS, if_neg h45]
    rw [e1] at i1 hmore hi3 hc2 hd2
    dsimp only at i1 hmore hi3 hc2 hd2
    generalize (byteD t s1).2 = s3 at i1 hmore hi3 ⊢
    generalize (byteD t s1).1 = c2 at i1 hc2 hd2 ⊢
    have hlt : ¬ c2 < c2 := Nat.lt_irrefl _
    rw [if_neg hlt] at i1
    repeat (first | exact endA | refine wkP ?_ | refine opB (fun b => ?_) | refine opA (fun a' c' hc1 hc2 => ?_) | (apply GJ.and; exact rfl; intro hg) | (apply GJ.or; exact rfl; intro hg))
    refine rangeD_ok hc2 hd2 ?_
    repeat (first | exact endA | refine wkP ?_ | refine opB (fun b => ?_) | refine opA (fun a' c' hc1 hc2 => ?_) | (apply GJ.and; exact rfl; intro hg) | (apply GJ.or; exact rfl; intro hg))
    refine or_ok i2 (range_in c2 c2) ?_
    repeat (first | exact endA | refine wkP ?_ | refine opB (fun b => ?_) | refine opA (fun a' c' hc1 hc2 => ?_) | (apply GJ.and; exact rfl; intro hg) | (apply GJ.or; exact rfl; intro hg))
    refine Wk.id ⟨(k, z.or (rangeD c2 c2), s3), ⟨rfl, ?_⟩, ?_, Sub.auto, Sup.auto⟩
    all_goals try dsimp only
    · exact ⟨i1, i2.or (range_in _ _), hi3, fun h => by have := hmore h; omega⟩
    · omega
end
end Go.Proofs.YtinbmhbfcoiefaaGreatDoor
end
