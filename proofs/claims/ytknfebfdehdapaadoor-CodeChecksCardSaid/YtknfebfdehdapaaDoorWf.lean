/- Values of whatever type, read out of memory that lasts. No program in sight. -/
import Derived.Test.YtknfebfdehdapaaDoorV14
import Derived.Test.YtknfebfdehdapaaDoorFrm
namespace Go.E
open Go
set_option linter.unusedVariables false
inductive Wf (P : Program) (ro : Ro) : TypeId → List Value → Prop
  | bool {t : TypeId} {b : Bool} (h : P.underlying t = some .bool) : Wf P ro t [.bool b]
  | int {t : TypeId} {k : IntKind} {n : Int} (h : P.underlying t = some (.int k)) (hw : (Lit.int k n).wf = true) : Wf P ro t [.int k n]
  | str {t : TypeId} {s : ByteArray} (h : P.underlying t = some .string) (hl : s.size ≤ reachBytes) : Wf P ro t [.string s]
  | slice {t e : TypeId} {a : Option Addr} {n c : Nat} {css : List (List Value)} (h : P.underlying t = some (.slice e)) (h0 : 0 < P.cellsOf e) (hr : Rs ro a n c (P.cellsOf e) css.flatten) (hl : css.length = n)
      (hs : ∀ (i : Nat) (x : List Value), css[i]? = some x → x.length = P.cellsOf e) (hw : ∀ (i : Nat) (x : List Value), css[i]? = some x → Wf P ro e x) : Wf P ro t [.slice a n c]
  | struct {t : TypeId} {fs : Array Field} {cs : List Value} (h : P.underlying t = some (.struct fs)) (hl : cs.length = P.cellsOf t) (hw : ∀ (i : Nat) (f : Field), fs.toList[i]? = some f → Wf P ro f.type ((cs.drop f.offset).take (P.cellsOf f.type))) : Wf P ro t cs
  | array {t e : TypeId} {m : Nat} {cs : List Value} (h : P.underlying t = some (.array m e)) (hl : cs.length = P.cellsOf t) (hw : ∀ i, i < m → Wf P ro e ((cs.drop (i * P.cellsOf e)).take (P.cellsOf e))) : Wf P ro t cs
  | nought {t e : TypeId} {cs : List Value} (h : P.underlying t = some (.slice e)) (h0 : P.cellsOf e = 0) : Wf P ro t cs
  | other {t : TypeId} {cs : List Value} (h : ∀ d, P.underlying t = some d → (∀ k, d ≠ .int k) ∧ d ≠ .bool ∧ d ≠ .string ∧ (∀ e, d ≠ .slice e) ∧ (∀ fs, d ≠ .struct fs) ∧ (∀ n e, d ≠ .array n e)) : Wf P ro t cs
theorem mapM_get {α β : Type} {f : α → Option β} : ∀ {l : List α} {r : List β}, l.mapM f = some r → r.length = l.length ∧ ∀ (i : Nat) (x : α), l[i]? = some x → ∃ y, f x = some y ∧ r[i]? = some y
  | [], r, h => by simp at h; subst h; simp
  | a :: l, r, h => by
    rw [List.mapM_cons] at h
    cases hf : f a with
    | none => rw [hf] at h; simp at h
    | some b =>
      rw [hf] at h
      cases hl : l.mapM f with
      | none => rw [hl] at h; simp at h
      | some r' =>
        rw [hl] at h
        simp at h
        subst h
        obtain ⟨h1, h2⟩ := mapM_get hl
        refine ⟨by simp [h1], fun i x hx => ?_⟩
        cases i with
        | zero => simp at hx; subst hx; exact ⟨b, hf, rfl⟩
        | succ i => exact h2 i x (by simpa using hx)
theorem weights_all {H : Type} {P : Program} {e : TypeId} {d : DataW H} : ∀ {ds : List (DataW H)}, d ∈ ds → ∀ n ∈ d.weights P e, n ∈ DataW.weightsAll P e ds
  | [], h, _, _ => by cases h
  | x :: ds, h, n, hn => by
    rw [DataW.weightsAll, List.mem_append]
    rcases List.mem_cons.1 h with rfl | h
    · exact .inl hn
    · exact .inr (weights_all h n hn)
theorem weights_each {H : Type} {P : Program} {t : TypeId} {d : DataW H} : ∀ {ts : List TypeId} {ds : List (DataW H)} {i : Nat}, ts[i]? = some t → ds[i]? = some d → ∀ n ∈ d.weights P t, n ∈ DataW.weightsEach P ts ds
  | [], _, _, h, _, _, _ => by simp at h
  | _ :: _, [], _, _, h, _, _ => by simp at h
  | x :: ts, y :: ds, 0, h1, h2, n, hn => by
    simp at h1 h2; subst h1; subst h2
    rw [DataW.weightsEach, List.mem_append]; exact .inl hn
  | x :: ts, y :: ds, i + 1, h1, h2, n, hn => by
    rw [DataW.weightsEach, List.mem_append]
    exact .inr (weights_each (i := i) (by simpa using h1) (by simpa using h2) n hn)
theorem flatten_getElem {css : List (List Value)} {s : Nat} (hs : ∀ (i : Nat) (x : List Value), css[i]? = some x → x.length = s) : ∀ {j : Nat} {v : Value}, css.flatten[j]? = some v → 0 < s → ∃ x, css[j / s]? = some x ∧ x[j % s]? = some v := by
  induction css with
  | nil => intro j v h; simp at h
  | cons c css ih =>
    intro j v h h0
    have hc : c.length = s := hs 0 c rfl
    rw [List.flatten_cons] at h
    by_cases hj : j < s
    · rw [List.getElem?_append_left (by omega)] at h
      refine ⟨c, ?_, by rw [Nat.mod_eq_of_lt hj]; exact h⟩
      rw [Nat.div_eq_of_lt hj]; rfl
    · rw [List.getElem?_append_right (by omega), hc] at h
      obtain ⟨x, h1, h2⟩ := ih (fun i x hx => hs (i + 1) x (by simpa using hx)) h h0
      refine ⟨x, ?_, ?_⟩
      · rw [show j / s = (j - s) / s + 1 by rw [Nat.div_eq_sub_div h0 (by omega)]]
        simpa using h1
      · rwa [Nat.mod_eq_sub_mod (by omega)]
theorem flatten_len {css : List (List Value)} {s : Nat} (hs : ∀ (i : Nat) (x : List Value), css[i]? = some x → x.length = s) : css.flatten.length = css.length * s := by
  induction css with
  | nil => simp
  | cons c css ih =>
    have hc : c.length = s := hs 0 c rfl
    rw [List.flatten_cons, List.length_append, ih (fun i x hx => hs (i + 1) x (by simpa using hx)), hc, List.length_cons, Nat.add_mul]
    omega
section
variable {P : Program} {W : World} {H : Type} {enc : TypeId × Value → H}
theorem Rs.ofCells {a : Addr} {n c s base : Nat} {css : List (List Value)} (h0 : 0 < s) (hl : css.length = n) (hle : n ≤ c) (hm : c ≤ maxLen) (hc : ∀ (i : Nat) (x : List Value), css[i]? = some x → W.cells? base (a.add (i * s)) s = some x) : Rs (E.hm W.heap) (some a) n c s css.flatten := by
  have hs : ∀ (i : Nat) (x : List Value), css[i]? = some x → x.length = s := fun i x hx => (World.cells?_some (hc i x hx)).2.1
  have hfl := flatten_len hs
  rw [hl] at hfl
  have hrd : Rd W.heap (.slice (some a) n c) n css.flatten := by
    rcases Nat.eq_zero_or_pos n with hn | hn
    · subst hn
      refine .inl ⟨rfl, List.eq_nil_of_length_eq_zero (by simpa using hfl), _, _, rfl, hm⟩
    · have h1 : ∃ x, css[0]? = some x := ⟨css[0], List.getElem?_eq_getElem (by omega)⟩
      obtain ⟨x, hx⟩ := h1
      have hcc := World.cells?_some (hc 0 x hx)
      have h2 := hcc.2.2 0 h0
      obtain ⟨b, o, spot⟩ := a
      have hx0 : x[0]? = some x[0] := List.getElem?_eq_getElem (by rw [hs 0 x hx]; exact h0)
      rw [hx0] at h2
      have hspot : spot = none := by simpa [Addr.add] using World.cell?_spot h2
      subst hspot
      refine .inr ⟨hn, b, o, c, rfl, hle, hm, ?_, ?_⟩
      · have := World.block_lt_of_cell? W _ h2
        simpa [Addr.add] using this
      · intro j v hv
        obtain ⟨y, hy1, hy2⟩ := flatten_getElem hs hv h0
        have hj : j % s < s := Nat.mod_lt _ h0
        have h3 := (World.cells?_some (hc _ y hy1)).2.2 (j % s) hj
        rw [hy2] at h3
        rw [← cell_eq, ← h3]
        congr 1
        have : j / s * s + j % s = j := by rw [Nat.mul_comm]; exact Nat.div_add_mod j s
        simp only [Addr.add]
        split <;> split <;> simp <;> omega
  exact Rs.ofRd hrd hfl
theorem Wf.ofTrod {base : Nat} {held : Bool} : ∀ (fuel : Nat) (t : TypeId) (cs : List Value) (x : DataW H × List MemPlace), DataW.trod enc P W base (fun _ => true) held fuel t cs = some x → (∀ n ∈ x.1.weights P t, n ≤ reachBytes) → Wf P (E.hm W.heap) t cs := by
  intro fuel
  induction fuel with
  | zero => intro t cs x h hb; simp [DataW.trod] at h
  | succ fuel ih =>
    intro t cs x h hb
    unfold DataW.trod at h
    split at h
    · rename_i b hu; exact .bool hu
    · rename_i k k' n hu
      split at h
      · rename_i hk; obtain ⟨rfl, hw⟩ := hk; exact .int hu hw
      · cases h
    · rename_i k k' n hu; exact .other fun d hd => by rw [hu] at hd; cases hd; simp
    · rename_i s hu
      split at h
      · cases h; exact .str hu (hb _ (by simp [DataW.weights]))
      · cases h
    · rename_i e hu; exact .other fun d hd => by rw [hu] at hd; cases hd; simp
    · rename_i e a hu; exact .other fun d hd => by rw [hu] at hd; cases hd; simp
    · rename_i e hu
      rcases Nat.eq_zero_or_pos (P.cellsOf e) with h0 | h0
      · exact .nought hu h0
      · exact .slice (css := []) hu h0 (Rs.ofRd (Rd.nil _) (by simp)) rfl (by simp) (by simp)
    · rename_i e a len cap hu
      rcases Nat.eq_zero_or_pos (P.cellsOf e) with h0 | h0
      · exact .nought hu h0
      · simp only at h
        split at h
        · rename_i hc
          obtain ⟨hc1, hc2, hc3⟩ := hc
          cases hm : (List.range len).mapM (fun i => (W.cells? base (a.add (i * P.cellsOf e)) (P.cellsOf e)).bind (DataW.trod enc P W base (fun _ => true) held fuel e)) with
          | none => rw [hm] at h; simp at h
          | some elems =>
            have hg := (mapM_get hm).2
            rw [hm] at h
            have hbs : ∀ (i : Nat) (z : DataW H × List MemPlace), elems[i]? = some z → ∀ n ∈ z.1.weights P e, n ≤ reachBytes := fun i z hz n hn => by
              simp only [Option.bind_some, Option.map_eq_some_iff] at h
              obtain ⟨rest, _, rfl⟩ := h
              refine hb n ?_
              simp only [DataW.weights, hu, List.mem_cons, List.mem_append]
              exact .inr (.inl (weights_all (List.mem_map.2 ⟨z, List.mem_of_getElem? hz, rfl⟩) n hn))
            have key : ∀ i, i < len → ∃ y z, W.cells? base (a.add (i * P.cellsOf e)) (P.cellsOf e) = some y ∧ DataW.trod enc P W base (fun _ => true) held fuel e y = some z ∧ ∀ n ∈ z.1.weights P e, n ≤ reachBytes := by
              intro i hi
              obtain ⟨z, hz, hz2⟩ := hg i i (by simp [hi])
              have hz3 := hbs i z hz2
              cases hy : W.cells? base (a.add (i * P.cellsOf e)) (P.cellsOf e) with
              | none => rw [hy] at hz; simp at hz
              | some y => rw [hy] at hz; exact ⟨y, z, rfl, hz, hz3⟩
            have hget : ∀ (i : Nat) (x : List Value), ((List.range len).map fun i => (W.cells? base (a.add (i * P.cellsOf e)) (P.cellsOf e)).getD [])[i]? = some x → W.cells? base (a.add (i * P.cellsOf e)) (P.cellsOf e) = some x ∧ ∃ z, DataW.trod enc P W base (fun _ => true) held fuel e x = some z ∧ ∀ n ∈ z.1.weights P e, n ≤ reachBytes := by
              intro i x hx
              have hi : i < len := by have := (List.getElem?_eq_some_iff.1 hx).1; simpa using this
              obtain ⟨y, z, h1, h2⟩ := key i hi
              simp [hi, h1] at hx
              subst hx
              exact ⟨h1, z, h2⟩
            exact .slice hu h0 (Rs.ofCells h0 (by simp) hc2 hc3 (fun i x hx => (hget i x hx).1)) (by simp) (fun i x hx => (World.cells?_some (hget i x hx).1).2.1) (fun i x hx => by obtain ⟨z, hz, hz2⟩ := (hget i x hx).2; exact ih e x z hz hz2)
        · cases h
    · rename_i fs hu
      split at h
      · rename_i hl
        refine .struct hu hl fun i f hf => ?_
        rw [Option.map_eq_some_iff] at h
        obtain ⟨xs, hm, rfl⟩ := h
        obtain ⟨y, hy, hy2⟩ := (mapM_get hm).2 i f hf
        refine ih _ _ y hy fun n hn => hb n ?_
        simp only [DataW.weights, hu]
        exact weights_each (i := i) (by rw [List.getElem?_map, hf]; rfl) (by rw [List.getElem?_map, hy2]; rfl) n hn
      · cases h
    · rename_i n e hu
      split at h
      · rename_i hl
        refine .array hu hl fun i hi => ?_
        rw [Option.map_eq_some_iff] at h
        obtain ⟨xs, hm, rfl⟩ := h
        obtain ⟨y, hy, hy2⟩ := (mapM_get hm).2 i i (by simp [hi])
        refine ih _ _ y hy fun n hn => hb n ?_
        simp only [DataW.weights, hu]
        exact weights_all (List.mem_map.2 ⟨y, List.mem_of_getElem? hy2, rfl⟩) n hn
      · cases h
    all_goals first
      | (rename_i hu; exact .other fun d hd => by rw [hu] at hd; cases hd; simp)
      | (rename_i hu _; exact .other fun d hd => by rw [hu] at hd; cases hd; simp)
      | (rename_i hu _ _; exact .other fun d hd => by rw [hu] at hd; cases hd; simp)
      | cases h
end
end Go.E
