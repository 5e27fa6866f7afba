/- Plain: the types of a specification are met each once, from its names on. -/
import Derived.Test.YtniofdklhlbphaaSpE
namespace Go.Proofs.Ytniofdklhlbphaa
open Go Go.E
set_option linter.unusedVariables false
set_option linter.unusedSimpArgs false
structure OwnRel (E : List Int) (o o' : List Bool) : Prop where
  len : o'.length = o.length
  nd : E.Nodup
  mem : ∀ k ∈ E, 0 ≤ k ∧ k.toNat < o.length ∧ o[k.toNat]! = false
  own : ∀ j : Nat, j < o.length → (o'[j]! = true ↔ o[j]! = true ∨ (j : Int) ∈ E)
theorem OwnRel.nil (o : List Bool) : OwnRel [] o o := ⟨rfl, .nil, fun k h => (by cases h), fun j _ => by simp⟩
theorem OwnRel.append {E F : List Int} {o o1 o2 : List Bool} (h : OwnRel E o o1) (k : OwnRel F o1 o2) : OwnRel (E ++ F) o o2 := by
  refine ⟨k.len.trans h.len, List.nodup_append.2 ⟨h.nd, k.nd, fun a ha b hb e => ?_⟩, fun a ha => ?_, fun j hj => ?_⟩
  · subst e
    obtain ⟨h1, h2, h3⟩ := h.mem a ha
    obtain ⟨k1, k2, k3⟩ := k.mem a hb
    have := (h.own a.toNat h2).2 (.inr (by rwa [Int.toNat_of_nonneg h1]))
    rw [this] at k3; cases k3
  · rcases List.mem_append.1 ha with ha | ha
    · exact h.mem a ha
    · obtain ⟨k1, k2, k3⟩ := k.mem a ha
      have h2 : a.toNat < o.length := by rw [← h.len]; exact k2
      refine ⟨k1, h2, ?_⟩
      cases e : o[a.toNat]! with
      | false => rfl
      | true => have := (h.own a.toNat h2).2 (.inl e); rw [this] at k3; cases k3
  · rw [k.own j (by rw [h.len]; exact hj), h.own j hj, List.mem_append, or_assoc]
theorem OwnRel.of {lim : Nat} : ∀ {ks : List Int} {o o' : List Bool}, lim ≤ o.length → ownAll lim ks o = .ok o' → OwnRel ks o o'
  | [], o, o', _, h => by simp [ownAll] at h; subst h; exact OwnRel.nil _
  | k :: ks, o, o', hl, h => by
    unfold ownAll at h
    split at h
    · cases h
    · rename_i h1
      split at h
      · cases h
      · rename_i h2
        have hk : k.toNat < o.length := by omega
        have ih := OwnRel.of (by simpa using hl) h
        have one : OwnRel [k] o (o.set k.toNat true) := by
          refine ⟨by simp, by simp, fun a ha => ?_, fun j hj => ?_⟩
          · simp only [List.mem_singleton] at ha; subst ha
            exact ⟨by omega, hk, by simpa using h2⟩
          · by_cases e : j = k.toNat
            · subst e
              have : ((k.toNat : Nat) : Int) = k := Int.toNat_of_nonneg (by omega)
              simp [hj, this]
            · have hne : ¬ ((j : Int) = k) := fun h => e (by omega)
              simp [hj, List.getElem_set_ne (Ne.symm e), hne]
        have := one.append ih
        simpa using this
def rngI (n : Nat) : List Int := (List.range n).map fun (i : Nat) => (i : Int)
theorem mem_rngI {n : Nat} {k : Int} : k ∈ rngI n ↔ 0 ≤ k ∧ k < n := by
  unfold rngI
  simp only [List.mem_map, List.mem_range]
  refine ⟨fun ⟨i, h, e⟩ => by omega, fun h => ⟨k.toNat, by omega, by omega⟩⟩
theorem rngI_nodup (n : Nat) : (rngI n).Nodup := by
  unfold rngI
  rw [List.nodup_iff_pairwise_ne, List.pairwise_map]
  exact List.Pairwise.imp (fun h e => h (by omega)) List.nodup_range
theorem rngI_succ (n : Nat) : rngI (n + 1) = rngI n ++ [(n : Int)] := by simp [rngI, List.range_succ]
theorem OwnRel.perm {E : List Int} {n : Nat} {o' : List Bool} (h : OwnRel E (List.replicate n false) o') (ho : false ∉ o') : E.Perm (rngI n) := by
  rw [List.perm_ext_iff_of_nodup h.nd (rngI_nodup n)]
  intro k
  rw [mem_rngI]
  refine ⟨fun hk => ?_, fun hk => ?_⟩
  · obtain ⟨h1, h2, _⟩ := h.mem k hk
    simp at h2; omega
  · have hl := h.len
    have h1 := (h.own k.toNat (by simp; omega)).1 (by
      have hlt : k.toNat < o'.length := by rw [hl]; simp; omega
      have : o'[k.toNat]! = o'[k.toNat] := by simp [hlt]
      rw [this]
      cases e : o'[k.toNat] with
      | true => rfl
      | false => exact absurd (e ▸ List.getElem_mem hlt) ho)
    rcases h1 with h1 | h1
    · have hlt : k.toNat < n := by omega
      simp [hlt] at h1
    · rwa [Int.toNat_of_nonneg hk.1] at h1
/-- A tree's nodes, it ahead of its parts. -/
def preI (kd : Nat → List Int) : Nat → Int → List Int
  | 0, _ => []
  | f + 1, a => a :: (kd a.toNat).flatMap (preI kd f)
theorem flatMap_congr' {α β : Type} {f g : α → List β} : ∀ {l : List α}, (∀ x ∈ l, f x = g x) → l.flatMap f = l.flatMap g
  | [], _ => rfl
  | x :: l, h => by rw [List.flatMap_cons, List.flatMap_cons, h x (by simp), flatMap_congr' fun y hy => h y (by simp [hy])]
theorem preI_more {kd : Nat → List Int} (hk : ∀ i k, k ∈ kd i → 0 ≤ k ∧ k < (i : Int)) : ∀ (f g : Nat) (a : Int), 0 ≤ a → a < f → a < g → preI kd f a = preI kd g a
  | 0, _, a, h0, h1, _ => by omega
  | _, 0, a, h0, _, h1 => by omega
  | f + 1, g + 1, a, h0, h1, h2 => by
    unfold preI
    rw [flatMap_congr' fun k hk' => preI_more hk f g k (hk _ _ hk').1 (by have := (hk _ _ hk').2; omega) (by have := (hk _ _ hk').2; omega)]
theorem pre_perm {kd : Nat → List Int} (hk : ∀ i k, k ∈ kd i → 0 ≤ k ∧ k < (i : Int)) {N : Nat} : ∀ (m : Nat) (L : List Int), m ≤ N → (L ++ (List.range m).flatMap kd).Perm (rngI m) → (L.flatMap (preI kd N)).Perm (rngI m)
  | 0, L, _, h => by
    have : L = [] := by
      have := h.length_eq
      simp [rngI] at this; exact this
    subst this; exact .refl _
  | m + 1, L, hm, h => by
    rw [List.range_succ, List.flatMap_append, rngI_succ] at h
    have hmem : (m : Int) ∈ L := by
      have : (m : Int) ∈ L ++ ((List.range m).flatMap kd ++ [m].flatMap kd) := h.mem_iff.2 (by simp)
      rcases List.mem_append.1 this with h1 | h1
      · exact h1
      · exfalso
        rcases List.mem_append.1 h1 with h1 | h1
        · obtain ⟨i, hi, h2⟩ := List.mem_flatMap.1 h1
          have := (hk i _ h2).2; have := List.mem_range.1 hi; omega
        · obtain ⟨i, hi, h2⟩ := List.mem_flatMap.1 h1
          simp only [List.mem_singleton] at hi; subst hi
          have := (hk _ _ h2).2; omega
    have hp := List.perm_cons_erase hmem
    have ih := pre_perm hk (N := N) m (L.erase (m : Int) ++ kd m) (by omega) (by
      have h1 : ((m : Int) :: (L.erase (m : Int) ++ ((List.range m).flatMap kd ++ [m].flatMap kd))).Perm ((m : Int) :: rngI m) := by
        refine ((hp.symm.append_right _).trans h).trans ?_
        exact List.perm_append_comm
      have h2 := (List.perm_cons _).1 h1
      refine .trans ?_ h2
      rw [List.append_assoc]
      refine .append_left _ ?_
      rw [List.flatMap_singleton]
      exact List.perm_append_comm)
    have e : preI kd N (m : Int) = (m : Int) :: (kd m).flatMap (preI kd N) := by
      rw [preI_more hk N (N + 1) m (by omega) (by omega) (by omega)]
      rfl
    refine (hp.flatMap_right _).trans ?_
    rw [List.flatMap_cons, e, rngI_succ]
    rw [List.cons_append]
    refine .trans ?_ (List.perm_append_comm (l₁ := [(m : Int)]))
    refine .cons _ (.trans ?_ ih)
    rw [List.flatMap_append]
    exact List.perm_append_comm
theorem OwnRel.nodes : ∀ (ds : List NodeD) (n : Nat) (o o' : List Bool), n + ds.length ≤ o.length → nodesAll n ds o = .ok o' → OwnRel (ds.flatMap kidsD) o o'
  | [], n, o, o', _, h => by simp [nodesAll] at h; subst h; exact OwnRel.nil _
  | d :: ds, n, o, o', hl, h => by
    rw [nodesAll] at h
    split at h
    · cases h
    · cases ho : ownAll n (kidsD d) o with
      | error e => rw [ho] at h; cases h
      | ok o1 =>
        rw [ho] at h
        simp only [List.length_cons] at hl
        have h1 := OwnRel.of (by omega) ho
        rw [List.flatMap_cons]
        exact h1.append (OwnRel.nodes ds (n + 1) o1 o' (by rw [h1.len]; omega) h)
def kidsAt (s : SpecD) (i : Nat) : List Int := match s.nodes[i]? with
  | some d => kidsD d
  | none => []
theorem kidsAt_all (s : SpecD) : (List.range s.nodes.length).flatMap (kidsAt s) = s.nodes.flatMap kidsD := by
  have key : ∀ (l : List NodeD) (f : Nat → List Int), (∀ i d, l[i]? = some d → f i = kidsD d) → (List.range l.length).flatMap f = l.flatMap kidsD := by
    intro l
    induction l with
    | nil => intro f _; rfl
    | cons d l ih =>
      intro f hf
      rw [List.length_cons, List.range_succ_eq_map, List.flatMap_cons, List.flatMap_cons, hf 0 d rfl, List.flatMap_map]
      congr 1
      exact ih (fun i => f (i + 1)) (fun i e h => hf (i + 1) e (by simpa using h))
  exact key s.nodes _ (fun i d h => by unfold kidsAt; rw [h])
theorem Ahead.kidsAt {s : SpecD} (h : Ahead s) (i : Nat) (k : Int) (hk : k ∈ kidsAt s i) : 0 ≤ k ∧ k < (i : Int) := by
  unfold Go.Proofs.Ytniofdklhlbphaa.kidsAt at hk
  split at hk
  · rename_i d hd; exact (h i d hd).2 k hk
  · cases hk
/-- All types, from the names on. -/
def allT (s : SpecD) : List Int := (s.defs.map (·.type)).flatMap (preI (kidsAt s) s.nodes.length)
theorem allT_perm {s : SpecD} (h : checkD s = 0) : (allT s).Perm (rngI s.nodes.length) := by
  obtain ⟨o, o', h1, h2, _, _, _, h3⟩ := checkD_ok h
  have r1 := OwnRel.nodes s.nodes 0 _ o (by simp) h1
  have r2 := OwnRel.of (by rw [r1.len]; simp) h2
  have hp := (r1.append r2).perm h3
  refine pre_perm (Ahead.of h).kidsAt _ _ (Nat.le_refl _) ?_
  rw [kidsAt_all]
  exact List.perm_append_comm.trans hp
theorem allT_sorted {s : SpecD} (h : checkD s = 0) : (allT s).mergeSort (fun x y => decide (x ≤ y)) = rngI s.nodes.length := by
  have hp : ((allT s).mergeSort (fun x y => decide (x ≤ y))).Perm (rngI s.nodes.length) := (List.mergeSort_perm _ _).trans (allT_perm h)
  refine hp.eq_of_pairwise (le := fun x y => x ≤ y) (fun a b _ _ h1 h2 => Int.le_antisymm h1 h2) ?_ ?_
  · have := List.pairwise_mergeSort (le := fun (x y : Int) => decide (x ≤ y)) (fun a b c h1 h2 => by simp at *; omega) (fun a b => by simp; omega) (allT s)
    exact this.imp (fun h => by simpa using h)
  · unfold rngI
    rw [List.pairwise_map]
    exact List.pairwise_lt_range.imp (fun h => by omega)
theorem allT_len {s : SpecD} (h : checkD s = 0) : (allT s).length = s.nodes.length := by
  rw [(allT_perm h).length_eq]; simp [rngI]
/-! ### a walk that may be stopped -/
def runG (go : List Int → Bool) : List Int → List Int → Bool × List Int
  | p, [] => (true, p)
  | p, k :: l => if go (p ++ [k]) then runG go (p ++ [k]) l else (false, p ++ [k])
theorem runG_true {go : List Int → Bool} : ∀ {l p : List Int}, (runG go p l).1 = true → (runG go p l).2 = p ++ l
  | [], p, _ => by simp [runG]
  | k :: l, p, h => by
    unfold runG at h ⊢
    split at h
    · rename_i hg; rw [if_pos hg, runG_true h]; simp
    · cases h
theorem runG_append {go : List Int → Bool} : ∀ (l m p : List Int), runG go p (l ++ m) = if (runG go p l).1 then runG go (p ++ l) m else runG go p l
  | [], m, p => by simp [runG]
  | k :: l, m, p => by
    rw [List.cons_append, runG]
    by_cases hg : go (p ++ [k]) = true
    · rw [if_pos hg, runG_append l m (p ++ [k])]
      conv => rhs; rw [runG, if_pos hg]
      rw [show p ++ [k] ++ l = p ++ k :: l by simp]
    · rw [if_neg hg]
      conv => rhs; rw [runG, if_neg hg]
      rfl
theorem runG_all {go : List Int → Bool} : ∀ {l p : List Int}, (∀ q, go q = true) → runG go p l = (true, p ++ l)
  | [], p, _ => by simp [runG]
  | k :: l, p, h => by rw [runG, if_pos (h _), runG_all h]; simp
theorem runG_stop {z : Int} : ∀ (l p : List Int), (runG (fun q => decide ((q.length : Int) ≠ z)) p l).1 = !decide (((runG (fun q => decide ((q.length : Int) ≠ z)) p l).2.length : Int) = z) ∨ (l = [] )
  | [], p => .inr rfl
  | k :: l, p => by
    refine .inl ?_
    rw [runG]
    by_cases hg : decide (((p ++ [k]).length : Int) ≠ z) = true
    · rw [if_pos hg]
      rcases runG_stop l (p ++ [k]) with h | h
      · exact h
      · subst h
        simp only [runG]
        rw [decide_eq_true_iff] at hg
        show true = !decide (((p ++ [k]).length : Int) = z)
        rw [decide_eq_false hg]; rfl
    · rw [if_neg hg]
      rw [decide_eq_true_iff] at hg
      simp only [Decidable.not_not] at hg
      show false = !decide (((p ++ [k]).length : Int) = z)
      rw [decide_eq_true hg]; rfl
end Go.Proofs.Ytniofdklhlbphaa
