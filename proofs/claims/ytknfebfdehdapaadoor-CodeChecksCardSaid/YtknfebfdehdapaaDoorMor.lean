/- More operations: calls, slices put together, cut, copied; strings. No program in sight. -/
import Derived.Test.YtknfebfdehdapaaDoorMem
import Derived.Great.BuildSlice
namespace Go.E
open Go
set_option linter.unusedSimpArgs false
set_option linter.unusedVariables false

section
variable {P : Program} {env : Env} {h : Heap} {d : Option Nat} {ty : TypeId} {pos : String} {af : Array Edge} {g : Option (Nat × Bool)}

theorem Enters.func {f : FuncId} {xs : List Operand} {vs : List Value} {ats : Array TypeId} (ha : evs env xs = some vs) (hf : ∀ args w, (callFunc f args).run P w = .ok (.enter f args) w) :
    Enters P ⟨d, .call { callee := .value (.func f), args := xs.toArray, argTypes := ats }, ty, pos, af, g⟩ env f vs.toArray := .mk fun ρ w hρ => by
  have h1 : ρ (.func f) = .func (.func f) #[] #[] := hρ _ _ rfl
  have h2 : xs.map ρ = vs := hρ.list ha
  simp [execOp, resolve, h1, Deferred.ofValue, invoke, h2, hf]
/-- A function value without captured variables, or a closure: its captured variables come behind the arguments. -/
theorem Enters.value {x : Operand} {f : FuncId} {cap : Array Value} {xs : List Operand} {vs : List Value} {ats : Array TypeId} (hx : ev env x = some (.func (.func f) #[] cap)) (ha : evs env xs = some vs)
    (hf : ∀ args w, (callFunc f args).run P w = .ok (.enter f args) w) :
    Enters P ⟨d, .call { callee := .value x, args := xs.toArray, argTypes := ats }, ty, pos, af, g⟩ env f (vs.toArray ++ cap) := .mk fun ρ w hρ => by
  have h2 : xs.map ρ = vs := hρ.list ha
  simp [execOp, resolve, hρ _ _ hx, Deferred.ofValue, invoke, h2, hf]

/-! ### slices put together -/
def flat (vs : List Value) : List Value := vs.flatMap fun v => v.cells.toList
theorem fill_from (size : Nat) : ∀ (vs : List Value) (k : Nat) (pre post : List Value), pre.length = k * size → post.length = vs.length * size → (∀ v ∈ vs, v.cells.size = size) →
    Instr.fill (fun i => some (i * size, size)) (pre ++ post).toArray ((vs.zipIdx k).map fun x => (x.2, x.1)) = some (pre ++ flat vs).toArray
  | [], k, pre, post, hp, hq, _ => by
    have : post = [] := List.eq_nil_of_length_eq_zero (by simpa using hq)
    subst this
    simp [Instr.fill, flat]
  | v :: r, k, pre, post, hp, hq, hv => by
    have hvs : v.cells.size = size := hv v (by simp)
    have hfold : ∀ (cs : List Value) (j : Nat) (A : List Value) (B : List Value), cs.length ≤ B.length → A.length = k * size + j →
        (cs.zipIdx j).foldl (fun (cs : Array Value) (x : Value × Nat) => cs.setIfInBounds (k * size + x.2) x.1) (A ++ B).toArray = (A ++ cs ++ B.drop cs.length).toArray := by
      intro cs
      induction cs with
      | nil => intro j A B _ _; simp
      | cons c cs ih =>
        intro j A B hB hA
        cases B with
        | nil => simp at hB
        | cons b B =>
          simp only [List.zipIdx_cons, List.foldl_cons]
          have e : (A ++ b :: B).toArray.setIfInBounds (k * size + j) c = ((A ++ [c]) ++ B).toArray := by
            apply Array.ext'
            simp only [Array.toList_setIfInBounds]
            rw [← hA, List.set_append_right _ _ (Nat.le_refl _)]
            simp
          rw [e, ih (j + 1) (A ++ [c]) B (by simpa using hB) (by simp [hA]; omega)]
          simp
    have hlen : size ≤ post.length := by rw [hq, List.length_cons, Nat.add_mul]; omega
    simp only [List.zipIdx_cons, List.map_cons, Instr.fill]
    have hc1 : ¬ (v.cells.size ≠ size ∨ k * size + v.cells.size > (pre ++ post).toArray.size) := by
      simp [hvs, hp]; omega
    rw [if_neg (by simpa using hc1)]
    have e2 : (v.cells.zipIdx).foldl (fun (cs : Array Value) (x : Value × Nat) => cs.setIfInBounds (k * size + x.2) x.1) (pre ++ post).toArray = (pre ++ v.cells.toList ++ post.drop size).toArray := by
      have := hfold v.cells.toList 0 pre post (by simp [hvs]; exact hlen) (by simp [hp])
      rw [← Array.foldl_toList, Array.toList_zipIdx, this]
      simp [hvs]
    rw [e2]
    have := fill_from size r (k + 1) (pre ++ v.cells.toList) (post.drop size) (by simp [hp, hvs, Nat.add_mul]) (by simp [hq, Nat.add_mul]) (fun u hu => hv u (by simp [hu]))
    rw [this]
    simp [flat]
/-- A slice literal of all its elements: a slice of one's own. -/
theorem Eff.buildSlice {t e n : Nat} {ps : List (Nat × Operand)} {vs : List Value} {i : TypeInfo} {z : Value} {size : Nat} (hv : evs env (ps.map (·.2)) = some vs) (hp : ps.map (·.1) = List.range n) (ht : P.underlying t = some (.slice e))
    (hi : P.info? e = some i) (hz : i.zero = some z) (hsz : i.size = size) (hpos : 0 < size) (hn : n * size ≤ 1048576) (h1 : ∀ v ∈ vs, v.cells.size = size) :
    Eff P ⟨d, .buildSlice t n ps.toArray, ty, pos, af, g⟩ env h (fun u h' => u = .slice (some ⟨h.size, 0, none⟩) n n ∧ Newly (.cells (flat vs).toArray e) h h') := .mk fun ρ w hρ hw => by
  subst hw
  have hvs : (ps.map (·.2)).map ρ = vs := hρ.list hv
  have hl : vs.length = n := by rw [← hvs]; have := congrArg List.length hp; simpa using this
  have hparts : (ps.toArray.map fun (i, x) => (i, ρ x)).toList = (vs.zipIdx 0).map fun x => (x.2, x.1) := by
    apply List.ext_getElem?
    intro j
    have e1 : (ps.map (·.1))[j]? = (List.range n)[j]? := by rw [hp]
    have e2 : ((ps.map (·.2)).map ρ)[j]? = vs[j]? := by rw [hvs]
    simp only [List.getElem?_map] at e1 e2
    simp only [List.map_toArray, List.getElem?_map, List.getElem?_zipIdx, Nat.zero_add]
    rw [← e2]
    cases hj : ps[j]? with
    | none => simp
    | some p =>
      obtain ⟨a, x⟩ := p
      have hjn : j < n := by have := (List.getElem?_eq_some_iff.1 hj).1; have := congrArg List.length hp; simp at this; omega
      rw [hj, List.getElem?_range hjn] at e1
      simp at e1
      simp [e1]
  have hrun : (Instr.buildSlice t n (ps.toArray.map fun (i, x) => (i, ρ x))).run P w = .ok (.slice (some ⟨w.heap.size, 0, none⟩) n n) { w with heap := w.heap.push (.cells (flat vs).toArray e) } := by
    by_cases h0 : n = 0
    · subst h0
      have hv0 : vs = [] := List.eq_nil_of_length_eq_zero hl
      subst hv0
      have hps : ps = [] := by simpa using hp
      subst hps
      simp [Instr.buildSlice, run_underlying ht, sizeOf, typeInfo, hi, newRow, Instr.fill, flat, show Array.range 0 = (#[] : Array Nat) from by apply Array.ext'; simp]
    · have hf := fill_from size vs 0 [] ((List.range (n * size)).map fun k => z.cells[k % z.cells.size]!) (by simp) (by simp [hl]) h1
      refine run_buildSlice w t e n _ (flat vs).toArray i z ht hi hz (by rw [hsz]; omega) (by rw [hsz]; exact Nat.mul_ne_zero h0 (by omega)) ?_
      rw [hparts, hsz]
      have e3 : (Array.range (n * size)).map (z.cells[· % z.cells.size]!) = ([] ++ (List.range (n * size)).map fun k => z.cells[k % z.cells.size]!).toArray := by
        apply Array.ext'; simp
      rw [e3, hf]
      simp
  refine ⟨_, { w with heap := w.heap.push (.cells (flat vs).toArray e) }, .inl ?_, ⟨rfl, rfl, rfl, rfl⟩, rfl, newly_push w _⟩
  simp only [execOp, Sem.run_bind]
  rw [hrun]
  rfl
theorem flat_length (size : Nat) : ∀ (vs : List Value), (∀ v ∈ vs, v.cells.size = size) → (flat vs).length = vs.length * size
  | [], _ => by simp [flat]
  | v :: r, hv => by
    have := flat_length size r (fun u hu => hv u (by simp [hu]))
    have h0 := hv v (by simp)
    have e : flat (v :: r) = v.cells.toList ++ flat r := rfl
    rw [e, List.length_append, this, Array.length_toList, h0, List.length_cons, Nat.add_mul]; omega
theorem flat_one : ∀ (vs : List Value), (∀ v ∈ vs, v.oneCell' = true) → flat vs = vs
  | [], _ => rfl
  | v :: r, hv => by
    have := flat_one r (fun u hu => hv u (by simp [hu]))
    have h0 := oneCell_of (hv v (by simp))
    simp only [flat, List.flatMap_cons] at this ⊢
    rw [this, h0]; rfl
theorem Newly.own {e n size base : Nat} {cs : List Value} {h h' : Heap} (hn : Newly (.cells cs.toArray e) h h') (hl : cs.length = n * size) (hm : n ≤ maxLen) (hb : base ≤ h.size) : Own h' base e size (.slice (some ⟨h.size, 0, none⟩) n n) n cs :=
  ⟨hl, .inr ⟨h.size, n, cs.toArray, rfl, hb, hn.2.1, Nat.le_refl _, hm, by simpa using hl, by rw [← hl]; simp⟩⟩

/-- make of elements of one cell. -/
theorem Eff.make1 {t e : TypeId} {x y : Operand} {n : Nat} {i : TypeInfo} {z : Value} {k k' : IntKind} (hx : ev env x = some (.int k (n : Int))) (hy : ev env y = some (.int k' (n : Int))) (ht : P.underlying t = some (.slice e)) (hi : P.info? e = some i) (hz : i.zero = some z) (hz1 : z.cells = #[z])
    (hsz : i.size = 1) (hb : i.bytes ≤ 1048576) (hn : n ≤ 134217728) :
    Eff P ⟨d, .makeSlice t x y, ty, pos, af, g⟩ env h (fun u h' => u = .slice (some ⟨h.size, 0, none⟩) n n ∧ Newly (.cells (List.replicate n z).toArray e) h h') := .mk fun ρ w hρ hw => by
  subst hw
  have hbytes : i.bytes * n ≤ 1048576 * 134217728 := Nat.mul_le_mul hb hn
  have hr := run_make (P := P) w t e i z ht hi hz k k' n n (by omega) (by omega) (by omega) (by omega)
  have e1 : (madeCells z.cells (((n : Int)).toNat * i.size)) = (List.replicate n z).toArray := by
    rw [hsz, hz1, Nat.mul_one]
    apply Array.ext'
    rw [toList_madeCells_one]
    simp
  rw [e1] at hr
  refine ⟨_, { w with heap := w.heap.push (.cells (List.replicate n z).toArray e) }, .inl ?_, ⟨rfl, rfl, rfl, rfl⟩, rfl, newly_push w _⟩
  simp only [execOp, hρ _ _ hx, hρ _ _ hy, Sem.run_bind]
  rw [hr]
  simp

/-! ### cuts of slices -/
theorem Pu.cutLH {t e : TypeId} {x lo hi : Operand} {a : Option Addr} {n c s : Nat} {l m : Int} {k1 k2 : IntKind} (hx : ev env x = some (.slice a n c)) (hl : ev env lo = some (.int k1 l)) (hh : ev env hi = some (.int k2 m)) (ht : P.underlying t = some (.slice e))
    (hs : (P.info? e).map (·.size) = some s) (h0 : 0 ≤ l) (h1 : l ≤ m) (h2 : m ≤ c) : Pu P ⟨d, .slice t x (some lo) (some hi) none, ty, pos, af, g⟩ env h (sliced a l.toNat m.toNat c s) := .mk fun ρ w hρ _ => by
  have he : P.elem t = e := by simp [Program.elem, ht]
  have ht' : P.underlying t = some (.slice (P.elem t)) := by rw [he]; exact ht
  simp only [execOp, Option.map_some, Option.map_none, hρ _ _ hx, hρ _ _ hl, hρ _ _ hh, run_sliceAt_slice w t _ _ _ _ ht', run_slice_lh w t a n c ht' k1 k2 l m h0 h1 h2, he, sizeOf_of hs, Sem.run_bind, Sem.run_pure, Result.andThen_ok]
theorem Pu.cutH {t e : TypeId} {x hi : Operand} {a : Option Addr} {n c s : Nat} {m : Int} {k2 : IntKind} (hx : ev env x = some (.slice a n c)) (hh : ev env hi = some (.int k2 m)) (ht : P.underlying t = some (.slice e))
    (hs : (P.info? e).map (·.size) = some s) (h0 : 0 ≤ m) (h2 : m ≤ c) : Pu P ⟨d, .slice t x none (some hi) none, ty, pos, af, g⟩ env h (sliced a 0 m.toNat c s) := .mk fun ρ w hρ _ => by
  have he : P.elem t = e := by simp [Program.elem, ht]
  have ht' : P.underlying t = some (.slice (P.elem t)) := by rw [he]; exact ht
  simp only [execOp, Option.map_some, Option.map_none, hρ _ _ hx, hρ _ _ hh, run_sliceAt_slice w t _ _ _ _ ht', run_slice_h w t a n c ht' k2 m h0 h2, he, sizeOf_of hs, Sem.run_bind, Sem.run_pure, Result.andThen_ok]
theorem Pu.cutL {t e : TypeId} {x lo : Operand} {a : Option Addr} {n c s : Nat} {l : Int} {k1 : IntKind} (hx : ev env x = some (.slice a n c)) (hl : ev env lo = some (.int k1 l)) (ht : P.underlying t = some (.slice e))
    (hs : (P.info? e).map (·.size) = some s) (h0 : 0 ≤ l) (h1 : l ≤ n) : Pu P ⟨d, .slice t x (some lo) none none, ty, pos, af, g⟩ env h (sliced a l.toNat n c s) := .mk fun ρ w hρ _ => by
  have he : P.elem t = e := by simp [Program.elem, ht]
  have ht' : P.underlying t = some (.slice (P.elem t)) := by rw [he]; exact ht
  simp only [execOp, Option.map_some, Option.map_none, hρ _ _ hx, hρ _ _ hl, run_sliceAt_slice w t _ _ _ _ ht', run_slice_l w t a n c ht' k1 l h0 h1, he, sizeOf_of hs, Sem.run_bind, Sem.run_pure, Result.andThen_ok]
/-- A cut of a slice that is read. -/
theorem Rd.cut {h : Heap} {a : Option Addr} {n c s l m : Nat} {cs : List Value} (hr : Rd h (.slice a n c) n cs) (hlm : l ≤ m) (hm : m ≤ n) : Rd h (sliced a l m c s) (m - l) ((cs.drop (l * s)).take ((m - l) * s)) := by
  have hc : c ≤ maxLen := by obtain ⟨_, _, e, _, h2⟩ := hr.slice; cases e; exact h2
  by_cases h0 : m - l = 0
  · left
    rw [h0]
    exact ⟨rfl, by simp, _, _, by simp [sliced, h0]; exact ⟨rfl, rfl⟩, by omega⟩
  · obtain ⟨b, o, cap, hv, h1, h2, h3, h4⟩ := hr.posn (by omega)
    cases hv
    right
    have hcl : c ≠ l := by omega
    refine ⟨by omega, b, o + l * s, c - l, ?_, by omega, by omega, h3, ?_⟩
    · simp [sliced, hcl, Addr.add_mid]
    · intro j v hv
      rw [List.getElem?_take] at hv
      split at hv
      · rw [List.getElem?_drop] at hv
        rw [Nat.add_assoc]; exact h4 _ _ hv
      · cases hv

/-! ### strings -/
def str (l : List UInt8) : Value := .string ⟨l.toArray⟩
def u8 (c : UInt8) : Value := .int .u8 (c.toNat : Int)
theorem str_of (s : ByteArray) : (.string s : Value) = str s.data.toList := by cases s; simp [str]
theorem Pu.lenStr {t : TypeId} {x : Operand} {l : List UInt8} (hx : ev env x = some (str l)) (ht : P.underlying t = some .string) :
    Pu P ⟨d, .call { callee := .builtin .len, args := #[x], argTypes := #[t] }, ty, pos, af, g⟩ env h (.int .i64 (l.length : Int)) := by
  have := Pu.lenS (h := h) (d := d) (ty := ty) (pos := pos) (af := af) (g := g) ht hx
  have e : (⟨l.toArray⟩ : ByteArray).size = l.length := by simp [ByteArray.size]
  rwa [e] at this
theorem Pu.eqlS {t yt : TypeId} {x y : Operand} {a b : List UInt8} (hx : ev env x = some (str a)) (hy : ev env y = some (str b)) :
    Pu P ⟨d, .binOp .eql t x y yt, ty, pos, af, g⟩ env h (.bool (decide (a = b))) := .mk fun ρ w hρ _ => by
  have e : (a == b) = decide (a = b) := by by_cases hab : a = b <;> simp [hab]
  simp [execOp, hρ _ _ hx, hρ _ _ hy, str, eqGuard, binOp_string_eql, e]
theorem Pu.neqS {t yt : TypeId} {x y : Operand} {a b : List UInt8} (hx : ev env x = some (str a)) (hy : ev env y = some (str b)) :
    Pu P ⟨d, .binOp .neq t x y yt, ty, pos, af, g⟩ env h (.bool (decide (a ≠ b))) := .mk fun ρ w hρ _ => by
  have e : (!(a == b)) = decide (a ≠ b) := by by_cases hab : a = b <;> simp [hab]
  simp [execOp, hρ _ _ hx, hρ _ _ hy, str, eqGuard, binOp_string_neq, e]
theorem Pu.addS {t yt : TypeId} {x y : Operand} {a b : List UInt8} (hx : ev env x = some (str a)) (hy : ev env y = some (str b)) (hr : a.length + b.length ≤ 4611686018427387904) :
    Pu P ⟨d, .binOp .add t x y yt, ty, pos, af, g⟩ env h (str (a ++ b)) := .mk fun ρ w hρ _ => by
  have e1 : (⟨a.toArray⟩ : ByteArray).size = a.length := by simp [ByteArray.size]
  have e2 : (⟨b.toArray⟩ : ByteArray).size = b.length := by simp [ByteArray.size]
  have e3 : (⟨a.toArray⟩ ++ ⟨b.toArray⟩ : ByteArray) = ⟨(a ++ b).toArray⟩ := by
    apply ByteArray.ext; simp
  have hle : ¬ (((a.length + b.length : Nat) : Int) > IntKind.i64.max) := by simp only [IntKind.max, IntKind.signed, IntKind.bits]; simp; omega
  simp only [execOp, hρ _ _ hx, hρ _ _ hy, str, eqGuard, binOp_string_add, Op.stringOp, e1, e2, e3]
  simp [hle]
  omega
theorem Pu.idxS {t : TypeId} {x ix : Operand} {l : List UInt8} {k : IntKind} {iv : Int} {c : UInt8} (hx : ev env x = some (str l)) (hi : ev env ix = some (.int k iv)) (ht : P.underlying t = some .string) (h0 : 0 ≤ iv) (hc : l[iv.toNat]? = some c) :
    Pu P ⟨d, .index t x ix, ty, pos, af, g⟩ env h (u8 c) := .mk fun ρ w hρ _ => by
  have hlt : iv.toNat < l.length := (List.getElem?_eq_some_iff.1 hc).1
  have e : (⟨l.toArray⟩ : ByteArray)[iv.toNat]? = some c := by
    rw [ByteArray.getElem?_lt' _ _ (by simpa [ByteArray.size] using hlt)]
    have := (List.getElem?_eq_some_iff.1 hc).2
    simp [ByteArray.getElem_eq_getElem_data, this]
  simp [execOp, hρ _ _ hx, hρ _ _ hi, str, Instr.index, asIntOf, run_underlying ht, h0, e, u8]
theorem extract_str (l : List UInt8) (a b : Nat) : (⟨l.toArray⟩ : ByteArray).extract a b = ⟨((l.drop a).take (b - a)).toArray⟩ := by
  apply ByteArray.ext
  apply Array.ext'
  simp [ByteArray.data_extract, List.extract_eq_take_drop]
theorem run_bounds_lh {w : World} {n : Nat} {l m : Int} {k1 k2 : IntKind} (h0 : 0 ≤ l) (h1 : l ≤ m) (h2 : m ≤ n) : (Instr.sliceBounds false n n (some (.int k1 l)) (some (.int k2 m)) none).run P w = .ok (l.toNat, m.toNat, n) w := by
  have hm : 0 ≤ m := by omega
  have e : (m.toNat : Int) = m := Int.toNat_of_nonneg hm
  simp [Instr.sliceBounds, run_sliceBound, h0, hm, h1, h2, e]
theorem Pu.cutS {t : TypeId} {x lo hi : Operand} {s : List UInt8} {l m : Int} {k1 k2 : IntKind} (hx : ev env x = some (str s)) (hl : ev env lo = some (.int k1 l)) (hh : ev env hi = some (.int k2 m)) (ht : P.underlying t = some .string)
    (h0 : 0 ≤ l) (h1 : l ≤ m) (h2 : m ≤ s.length) : Pu P ⟨d, .slice t x (some lo) (some hi) none, ty, pos, af, g⟩ env h (str ((s.drop l.toNat).take (m.toNat - l.toNat))) := .mk fun ρ w hρ _ => by
  have e1 : (⟨s.toArray⟩ : ByteArray).size = s.length := by simp [ByteArray.size]
  simp only [execOp, Option.map_some, Option.map_none, hρ _ _ hx, hρ _ _ hl, hρ _ _ hh, str, run_sliceAt_string w t _ _ _ _ ht, Instr.slice, run_underlying ht, Sem.run_bind, Result.andThen_ok, e1, Option.isSome_none, Bool.false_eq_true, if_false]
  rw [run_bounds_lh h0 h1 h2]
  simp [extract_str]
theorem Pu.cutSH {t : TypeId} {x hi : Operand} {s : List UInt8} {m : Int} {k2 : IntKind} (hx : ev env x = some (str s)) (hh : ev env hi = some (.int k2 m)) (ht : P.underlying t = some .string)
    (h1 : 0 ≤ m) (h2 : m ≤ s.length) : Pu P ⟨d, .slice t x none (some hi) none, ty, pos, af, g⟩ env h (str (s.take m.toNat)) := .mk fun ρ w hρ _ => by
  have e1 : (⟨s.toArray⟩ : ByteArray).size = s.length := by simp [ByteArray.size]
  simp only [execOp, Option.map_some, Option.map_none, hρ _ _ hx, hρ _ _ hh, str, run_sliceAt_string w t _ _ _ _ ht, run_slice_string_h w t _ ht k2 m h1 (by rw [e1]; exact h2), Sem.run_bind, Result.andThen_ok, extract_str]
  simp
theorem Pu.cutSL {t : TypeId} {x lo : Operand} {s : List UInt8} {l : Int} {k1 : IntKind} (hx : ev env x = some (str s)) (hl : ev env lo = some (.int k1 l)) (ht : P.underlying t = some .string)
    (h0 : 0 ≤ l) (h1 : l ≤ s.length) : Pu P ⟨d, .slice t x (some lo) none none, ty, pos, af, g⟩ env h (str (s.drop l.toNat)) := .mk fun ρ w hρ _ => by
  have e1 : (⟨s.toArray⟩ : ByteArray).size = s.length := by simp [ByteArray.size]
  simp only [execOp, Option.map_some, Option.map_none, hρ _ _ hx, hρ _ _ hl, str, run_sliceAt_string w t _ _ _ _ ht, run_slice_string_l w t _ ht k1 l h0 (by rw [e1]; exact h1), Sem.run_bind, Result.andThen_ok, extract_str]
  have e2 : (s.drop l.toNat).take (s.length - l.toNat) = s.drop l.toNat := List.take_of_length_le (by simp)
  simp [e1, e2]
/-- string(b) of a slice of bytes. -/
theorem Pu.toStr {s t e : TypeId} {x : Operand} {v : Value} {l : List UInt8} (hx : ev env x = some v) (hs : P.underlying s = some (.slice e)) (he : P.underlying e = some (.int .u8)) (ht : P.underlying t = some .string) (hr : Rd h v l.length (l.map u8)) :
    Pu P ⟨d, .convert s t x, ty, pos, af, g⟩ env h (str l) := .mk fun ρ w hρ hw => by
  subst hw
  rcases hr with ⟨h0, _, a, c, rfl, _⟩ | ⟨_, b, o, cap, rfl, _, _, _, hc⟩
  · have : l = [] := List.eq_nil_of_length_eq_zero h0
    subst this
    simp only [execOp, hρ _ _ hx, run_convert_bytes_string w s t e _ _ _ hs he ht, Sem.run_bind]
    cases a with
    | none => simp [Conv.bytesToString, str]; rfl
    | some a =>
      have hb := run_bytesToString (P := P) w a 0 c [] (by simp [loadCells, loadCellsFrom])
      rw [hb]
      simp [str]
      rfl
  · have hl : (loadCells ⟨b, o, none⟩ l.length).run P w = .ok ((l.map fun c => (c.toNat : Int)).map (Value.int .u8)).toArray w := by
      have := run_loadCells_list (P := P) w ⟨b, o, none⟩ (l.map u8) (fun j u hu => by rw [Addr.add_mid, cell_eq]; exact hc j u hu)
      simp only [List.length_map] at this
      rw [this]
      congr 2
      simp [u8]
    have hb := run_bytesToString w ⟨b, o, none⟩ l.length cap _ hl
    have hfold : ∀ (l : List UInt8) (acc : List UInt8), (l.map fun c => (c.toNat : Int)).foldl (fun r n => r.push (UInt8.ofNat n.toNat)) (⟨acc.toArray⟩ : ByteArray) = ⟨(acc ++ l).toArray⟩ := by
      intro l
      induction l with
      | nil => intro acc; simp
      | cons c l ih =>
        intro acc
        simp only [List.map_cons, List.foldl_cons]
        have e : (⟨acc.toArray⟩ : ByteArray).push (UInt8.ofNat ((c.toNat : Int)).toNat) = ⟨(acc ++ [c]).toArray⟩ := by
          apply ByteArray.ext; simp [ByteArray.push]
        rw [e, ih]
        simp
    have e0 : ByteArray.empty = (⟨([] : List UInt8).toArray⟩ : ByteArray) := rfl
    rw [e0, hfold l []] at hb
    simp only [execOp, hρ _ _ hx, run_convert_bytes_string w s t e _ _ _ hs he ht, Sem.run_bind, hb, Result.andThen_ok, Sem.run_pure]
    simp [str]
end
end Go.E
