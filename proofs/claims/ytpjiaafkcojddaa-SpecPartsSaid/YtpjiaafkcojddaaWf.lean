/- Values of whatever type, read out of memory that lasts. No program in sight. -/
import Derived.Test.YtpjiaafkcojddaaV14
import Derived.Test.YtpjiaafkcojddaaFrm
namespace Go.E
open Go
set_option linter.unusedVariables false
inductive Wf (P : Program) (ro : Ro) : TypeId → List Value → Prop
  | bool {t : TypeId} {b : Bool} (h : P.underlying t = some .bool) : Wf P ro t [.bool b]
  | int {t : TypeId} {k : IntKind} {n : Int} (h : P.underlying t = some (.int k)) (hw : (Lit.int k n).wf = true) : Wf P ro t [.int k n]
  | str {t : TypeId} {s : ByteArray} (h : P.underlying t = some .string) (hl : s.size ≤ maxLen) : Wf P ro t [.string s]
  | slice {t e : TypeId} {a : Option Addr} {n c : Nat} {css : List (List Value)} (h : P.underlying t = some (.slice e)) (h0 : 0 < P.cellsOf e) (hr : Rs ro a n c (P.cellsOf e) css.flatten) (hl : css.length = n)
      (hs : ∀ (i : Nat) (x : List Value), css[i]? = some x → x.length = P.cellsOf e) (hw : ∀ (i : Nat) (x : List Value), css[i]? = some x → Wf P ro e x) : Wf P ro t [.slice a n c]
  | struct {t : TypeId} {fs : Array Field} {cs : List Value} (h : P.underlying t = some (.struct fs)) (hl : cs.length = P.cellsOf t) (hw : ∀ (i : Nat) (f : Field), fs.toList[i]? = some f → Wf P ro f.type ((cs.drop f.offset).take (P.cellsOf f.type))) : Wf P ro t cs
  | array {t e : TypeId} {m : Nat} {cs : List Value} (h : P.underlying t = some (.array m e)) (hl : cs.length = P.cellsOf t) (hw : ∀ i, i < m → Wf P ro e ((cs.drop (i * P.cellsOf e)).take (P.cellsOf e))) : Wf P ro t cs
  | nought {t e : TypeId} {cs : List Value} (h : P.underlying t = some (.slice e)) (h0 : P.cellsOf e = 0) : Wf P ro t cs
  | other {t : TypeId} {cs : List Value} (h : ∀ d, P.underlying t = some d → (∀ k, d ≠ .int k) ∧ d ≠ .bool ∧ d ≠ .string ∧ (∀ e, d ≠ .slice e) ∧ (∀ fs, d ≠ .struct fs) ∧ (∀ n e, d ≠ .array n e)) : Wf P ro t cs
theorem mapM_get {α β : Type} {f : α → Option β} : ∀ {l : List α} {r : List β}, l.mapM f = some r → r.length = l.length ∧ ∀ (i : Nat) (x : α), l[i]? = some x → ∃ y, f x = some y
  | [], r, h => by simp at h; subst h; simp
  | a :: l, r, h => by
    rw [List.mapM_cons] at h
    cases hf : f a with
    | none => rw [hf] at h; simp at h
    | some b =>
      rw [hf] at h
      cases hl : l.mapM f with
      | none => rw [hl] at h; simp at h
      | some r' =>
        rw [hl] at h
        simp at h
        subst h
        obtain ⟨h1, h2⟩ := mapM_get hl
        refine ⟨by simp [h1], fun i x hx => ?_⟩
        cases i with
        | zero => simp at hx; subst hx; exact ⟨b, hf⟩
        | succ i => exact h2 i x (by simpa using hx)
theorem flatten_getElem {css : List (List Value)} {s : Nat} (hs : ∀ (i : Nat) (x : List Value), css[i]? = some x → x.length = s) : ∀ {j : Nat} {v : Value}, css.flatten[j]? = some v → 0 < s → ∃ x, css[j / s]? = some x ∧ x[j % s]? = some v := by
  induction css with
  | nil => intro j v h; simp at h
  | cons c css ih =>
    intro j v h h0
    have hc : c.length = s := hs 0 c rfl
    rw [List.flatten_cons] at h
    by_cases hj : j < s
    · rw [List.getElem?_append_left (by omega)] at h
      refine ⟨c, ?_, by rw [Nat.mod_eq_of_lt hj]; exact h⟩
      rw [Nat.div_eq_of_lt hj]; rfl
    · rw [List.getElem?_append_right (by omega), hc] at h
      obtain ⟨x, h1, h2⟩ := ih (fun i x hx => hs (i + 1) x (by simpa using hx)) h h0
      refine ⟨x, ?_, ?_⟩
      · rw [show j / s = (j - s) / s + 1 by rw [Nat.div_eq_sub_div h0 (by omega)]]
        simpa using h1
      · rwa [Nat.mod_eq_sub_mod (by omega)]
theorem flatten_len {css : List (List Value)} {s : Nat} (hs : ∀ (i : Nat) (x : List Value), css[i]? = some x → x.length = s) : css.flatten.length = css.length * s := by
  induction css with
  | nil => simp
  | cons c css ih =>
    have hc : c.length = s := hs 0 c rfl
    rw [List.flatten_cons, List.length_append, ih (fun i x hx => hs (i + 1) x (by simpa using hx)), hc, List.length_cons, Nat.add_mul]
    omega
section
variable {P : Program} {W : World} {H : Type} {enc : TypeId × Value → H}
theorem Rs.ofCells {a : Addr} {n c s base : Nat} {css : List (List Value)} (h0 : 0 < s) (hl : css.length = n) (hle : n ≤ c) (hm : c ≤ maxLen) (hc : ∀ (i : Nat) (x : List Value), css[i]? = some x → W.cells? base (a.add (i * s)) s = some x) : Rs (E.hm W.heap) (some a) n c s css.flatten := by
  have hs : ∀ (i : Nat) (x : List Value), css[i]? = some x → x.length = s := fun i x hx => (World.cells?_some (hc i x hx)).2.1
  have hfl := flatten_len hs
  rw [hl] at hfl
  have hrd : Rd W.heap (.slice (some a) n c) n css.flatten := by
    rcases Nat.eq_zero_or_pos n with hn | hn
    · subst hn
      refine .inl ⟨rfl, List.eq_nil_of_length_eq_zero (by simpa using hfl), _, _, rfl, hm⟩
    · have h1 : ∃ x, css[0]? = some x := ⟨css[0], List.getElem?_eq_getElem (by omega)⟩
      obtain ⟨x, hx⟩ := h1
      have hcc := World.cells?_some (hc 0 x hx)
      have h2 := hcc.2.2 0 h0
      obtain ⟨b, o, spot⟩ := a
      have hx0 : x[0]? = some x[0] := List.getElem?_eq_getElem (by rw [hs 0 x hx]; exact h0)
      rw [hx0] at h2
      have hspot : spot = none := by simpa [Addr.add] using World.cell?_spot h2
      subst hspot
      refine .inr ⟨hn, b, o, c, rfl, hle, hm, ?_, ?_⟩
      · have := World.block_lt_of_cell? W _ h2
        simpa [Addr.add] using this
      · intro j v hv
        obtain ⟨y, hy1, hy2⟩ := flatten_getElem hs hv h0
        have hj : j % s < s := Nat.mod_lt _ h0
        have h3 := (World.cells?_some (hc _ y hy1)).2.2 (j % s) hj
        rw [hy2] at h3
        rw [← cell_eq, ← h3]
        congr 1
        have : j / s * s + j % s = j := by rw [Nat.mul_comm]; exact Nat.div_add_mod j s
        simp only [Addr.add]
        split <;> split <;> simp <;> omega
  exact Rs.ofRd hrd hfl
theorem Wf.ofTrod {base : Nat} {held : Bool} : ∀ (fuel : Nat) (t : TypeId) (cs : List Value) (x : DataW H × List MemPlace), DataW.trod enc P W base (fun _ => true) held fuel t cs = some x → Wf P (E.hm W.heap) t cs := by
  intro fuel
  induction fuel with
  | zero => intro t cs x h; simp [DataW.trod] at h
  | succ fuel ih =>
    intro t cs x h
    unfold DataW.trod at h
    split at h
    · rename_i b hu; exact .bool hu
    · rename_i k k' n hu
      split at h
      · rename_i hk; obtain ⟨rfl, hw⟩ := hk; exact .int hu hw
      · cases h
    · rename_i k k' n hu; exact .other fun d hd => by rw [hu] at hd; cases hd; simp
    · rename_i s hu
      split at h
      · rename_i hk; exact .str hu hk
      · cases h
    · rename_i e hu; exact .other fun d hd => by rw [hu] at hd; cases hd; simp
    · rename_i e a hu; exact .other fun d hd => by rw [hu] at hd; cases hd; simp
    · rename_i e hu
      rcases Nat.eq_zero_or_pos (P.cellsOf e) with h0 | h0
      · exact .nought hu h0
      · exact .slice (css := []) hu h0 (Rs.ofRd (Rd.nil _) (by simp)) rfl (by simp) (by simp)
    · rename_i e a len cap hu
      rcases Nat.eq_zero_or_pos (P.cellsOf e) with h0 | h0
      · exact .nought hu h0
      · simp only at h
        split at h
        · rename_i hc
          obtain ⟨hc1, hc2, hc3⟩ := hc
          cases hm : (List.range len).mapM (fun i => (W.cells? base (a.add (i * P.cellsOf e)) (P.cellsOf e)).bind (DataW.trod enc P W base (fun _ => true) held fuel e)) with
          | none => rw [hm] at h; simp at h
          | some elems =>
            have hg := (mapM_get hm).2
            have key : ∀ i, i < len → ∃ y z, W.cells? base (a.add (i * P.cellsOf e)) (P.cellsOf e) = some y ∧ DataW.trod enc P W base (fun _ => true) held fuel e y = some z := by
              intro i hi
              obtain ⟨z, hz⟩ := hg i i (by simp [hi])
              cases hy : W.cells? base (a.add (i * P.cellsOf e)) (P.cellsOf e) with
              | none => rw [hy] at hz; simp at hz
              | some y => rw [hy] at hz; exact ⟨y, z, rfl, hz⟩
            have hget : ∀ (i : Nat) (x : List Value), ((List.range len).map fun i => (W.cells? base (a.add (i * P.cellsOf e)) (P.cellsOf e)).getD [])[i]? = some x → W.cells? base (a.add (i * P.cellsOf e)) (P.cellsOf e) = some x ∧ ∃ z, DataW.trod enc P W base (fun _ => true) held fuel e x = some z := by
              intro i x hx
              have hi : i < len := by have := (List.getElem?_eq_some_iff.1 hx).1; simpa using this
              obtain ⟨y, z, h1, h2⟩ := key i hi
              simp [hi, h1] at hx
              subst hx
              exact ⟨h1, z, h2⟩
            exact .slice hu h0 (Rs.ofCells h0 (by simp) hc2 hc3 (fun i x hx => (hget i x hx).1)) (by simp) (fun i x hx => (World.cells?_some (hget i x hx).1).2.1) (fun i x hx => by obtain ⟨z, hz⟩ := (hget i x hx).2; exact ih e x z hz)
        · cases h
    · rename_i fs hu
      split at h
      · rename_i hl
        refine .struct hu hl fun i f hf => ?_
        rw [Option.map_eq_some_iff] at h
        obtain ⟨xs, hm, _⟩ := h
        obtain ⟨y, hy⟩ := (mapM_get hm).2 i f hf
        exact ih _ _ y hy
      · cases h
    · rename_i n e hu
      split at h
      · rename_i hl
        refine .array hu hl fun i hi => ?_
        rw [Option.map_eq_some_iff] at h
        obtain ⟨xs, hm, _⟩ := h
        obtain ⟨y, hy⟩ := (mapM_get hm).2 i i (by simp [hi])
        exact ih _ _ y hy
      · cases h
    all_goals first
      | (rename_i hu; exact .other fun d hd => by rw [hu] at hd; cases hd; simp)
      | (rename_i hu _; exact .other fun d hd => by rw [hu] at hd; cases hd; simp)
      | (rename_i hu _ _; exact .other fun d hd => by rw [hu] at hd; cases hd; simp)
      | cases h
end
end Go.E
