/- What operations on memory do, as facts on the heap: cells, structs behind pointers, slices that are read, slices of one's own, append. No program in sight. -/
import Derived.Test.YtknfebfdehdapaaDoorOps
import Derived.Deep.AppendSrc
import Derived.Laws.BytesString
namespace Go.E
open Go
set_option linter.unusedSimpArgs false
set_option linter.unusedVariables false

def cellAt (h : Heap) (b o : Nat) : Option Value := match h[b]? with
  | some (.cells c _ _) => c[o]?
  | _ => none
theorem cell_eq (w : World) (b o : Nat) : w.cell? ⟨b, o, none⟩ = cellAt w.heap b o := by
  simp only [World.cell?, cellAt]; split <;> simp_all
theorem cellAt_of {h : Heap} {b o : Nat} {c : Array Value} {t : TypeId} {fz : Nat × Nat} (hb : h[b]? = some (.cells c t fz)) : cellAt h b o = c[o]? := by simp [cellAt, hb]
theorem cellAt_congr {h h' : Heap} {b : Nat} (hb : h'[b]? = h[b]?) (o : Nat) : cellAt h' b o = cellAt h b o := by simp [cellAt, hb]
theorem cellAt_lt {h : Heap} {b o : Nat} {v : Value} (hc : cellAt h b o = some v) : b < h.size := by
  unfold cellAt at hc
  split at hc
  · rename_i hb; exact (Array.getElem?_eq_some_iff.1 hb).1
  · cases hc
/-- Cells lie one behind the other from a place on. -/
def Cells (h : Heap) (b o : Nat) (cs : List Value) : Prop := ∀ j v, cs[j]? = some v → cellAt h b (o + j) = some v
/-- A whole block, which may be written. -/
def Row (h : Heap) (b : Nat) (t : TypeId) (cs : List Value) : Prop := h[b]? = some (.cells cs.toArray t (0, 0))
theorem Row.cells {h : Heap} {b : Nat} {t : TypeId} {cs : List Value} (hr : Row h b t cs) : Cells h b 0 cs := fun j v hv => by
  rw [Nat.zero_add, cellAt_of hr]; simpa using hv
theorem Row.cell {h : Heap} {b o : Nat} {t : TypeId} {cs : List Value} {v : Value} (hr : Row h b t cs) (hv : cs[o]? = some v) : cellAt h b o = some v := by
  rw [cellAt_of hr]; simpa using hv
theorem Row.lt {h : Heap} {b : Nat} {t : TypeId} {cs : List Value} (hr : Row h b t cs) : b < h.size := (Array.getElem?_eq_some_iff.1 hr).1
theorem Row.keep {h h' : Heap} {b : Nat} {t : TypeId} {cs : List Value} (hr : Row h b t cs) (hk : h'[b]? = h[b]?) : Row h' b t cs := hk.trans hr
theorem Cells.keep {h h' : Heap} {b o : Nat} {cs : List Value} (hc : Cells h b o cs) (hk : h'[b]? = h[b]?) : Cells h' b o cs := fun j v hv => by rw [cellAt_congr hk]; exact hc j v hv
theorem Cells.range {w : World} {b o : Nat} {cs : List Value} (hc : Cells w.heap b o cs) : w.rangeAt b o cs := fun j v hv => by rw [cell_eq]; exact hc j v hv

/-- All blocks that were there are as they were. -/
def Ext (h h' : Heap) : Prop := h.size ≤ h'.size ∧ ∀ k, k < h.size → h'[k]? = h[k]?
/-- All blocks below B are as they were. -/
def Bel (B : Nat) (h h' : Heap) : Prop := h.size ≤ h'.size ∧ ∀ k, k < B → h'[k]? = h[k]?
/-- All blocks but one are as they were. -/
def ExtX (b : Nat) (h h' : Heap) : Prop := h.size ≤ h'.size ∧ ∀ k, k < h.size → k ≠ b → h'[k]? = h[k]?
theorem Ext.refl (h : Heap) : Ext h h := ⟨Nat.le_refl _, fun _ _ => rfl⟩
theorem Ext.trans {a b c : Heap} (h1 : Ext a b) (h2 : Ext b c) : Ext a c := ⟨Nat.le_trans h1.1 h2.1, fun k hk => (h2.2 k (Nat.lt_of_lt_of_le hk h1.1)).trans (h1.2 k hk)⟩
theorem Bel.refl (B : Nat) (h : Heap) : Bel B h h := ⟨Nat.le_refl _, fun _ _ => rfl⟩
theorem Bel.trans {B : Nat} {a b c : Heap} (h1 : Bel B a b) (h2 : Bel B b c) : Bel B a c := ⟨Nat.le_trans h1.1 h2.1, fun k hk => (h2.2 k hk).trans (h1.2 k hk)⟩
theorem Bel.ext {a b c : Heap} {B : Nat} (h1 : Bel B a b) (h2 : Ext b c) (hB : B ≤ b.size) : Bel B a c := ⟨Nat.le_trans h1.1 h2.1, fun k hk => (h2.2 k (by omega)).trans (h1.2 k hk)⟩
theorem Bel.toExt {a b : Heap} (h : Bel a.size a b) : Ext a b := h
theorem Ext.bel {a b : Heap} {B : Nat} (h : Ext a b) (hB : B ≤ a.size) : Bel B a b := ⟨h.1, fun k hk => h.2 k (by omega)⟩
theorem ExtX.refl (b : Nat) (h : Heap) : ExtX b h h := ⟨Nat.le_refl _, fun _ _ _ => rfl⟩
theorem Ext.toX {a c : Heap} (h : Ext a c) (b : Nat) : ExtX b a c := ⟨h.1, fun k hk _ => h.2 k hk⟩
theorem ExtX.trans {b : Nat} {a c d : Heap} (h1 : ExtX b a c) (h2 : ExtX b c d) : ExtX b a d := ⟨Nat.le_trans h1.1 h2.1, fun k hk hb => (h2.2 k (Nat.lt_of_lt_of_le hk h1.1) hb).trans (h1.2 k hk hb)⟩
theorem Ext.thenX {a b c : Heap} {p : Nat} (h1 : Ext a b) (h2 : ExtX p b c) (hp : a.size ≤ p) : Ext a c := ⟨Nat.le_trans h1.1 h2.1, fun k hk => (h2.2 k (Nat.lt_of_lt_of_le hk h1.1) (by omega)).trans (h1.2 k hk)⟩
theorem Ext.thenBel {a b c : Heap} {B : Nat} (h1 : Ext a b) (h2 : Bel B b c) (hp : a.size ≤ B) : Ext a c := ⟨Nat.le_trans h1.1 h2.1, fun k hk => (h2.2 k (by omega)).trans (h1.2 k hk)⟩
theorem ExtX.bel {a c : Heap} {b B : Nat} (h : ExtX b a c) (hB : B ≤ a.size) (hb : B ≤ b) : Bel B a c := ⟨h.1, fun k hk => h.2 k (by omega) (by omega)⟩

section
variable {P : Program} {env : Env} {h : Heap} {d : Option Nat} {ty : TypeId} {pos : String} {af : Array Edge} {g : Option (Nat × Bool)}

/-! ### loads -/
theorem run_loadVar_one {w : World} {t : TypeId} {du : TypeDesc} {b o : Nat} {v : Value} (hu : P.underlying t = some du) (hd : du.isRow = false) (hc : cellAt w.heap b o = some v) : (loadVar t ⟨b, o, none⟩).run P w = .ok v w := by
  have hagg : (isAgg t).run P w = .ok false w := by
    unfold isAgg
    rw [Sem.run_bind, run_underlying hu w]
    cases du <;> simp_all
  have hc' : w.cell? ⟨b, o, none⟩ = some v := by rw [cell_eq]; exact hc
  simp [loadVar, Sem.run_bind, hagg, hc']
theorem Pu.load {t : TypeId} {x : Operand} {du : TypeDesc} {b o : Nat} {v : Value} (hx : ev env x = some (.pointer (some ⟨b, o, none⟩))) (hu : P.underlying t = some du) (hd : du.isRow = false) (hc : cellAt h b o = some v) :
    Pu P ⟨d, .load t x, ty, pos, af, g⟩ env h v := .mk fun ρ w hr hw => by
  subst hw
  simp only [execOp, hr _ _ hx, Instr.loadAt, Instr.sureAddr, Sem.run_bind, Sem.run_pure, Result.andThen_ok, run_loadVar_one hu hd hc]
theorem Pu.loadRow {t : TypeId} {x : Operand} {du : TypeDesc} {b o : Nat} {cs : List Value} (hx : ev env x = some (.pointer (some ⟨b, o, none⟩))) (hu : P.underlying t = some du) (hd : du.isRow = true) (hi : (P.info? t).map (·.size) = some cs.length)
    (hc : Cells h b o cs) : Pu P ⟨d, .load t x, ty, pos, af, g⟩ env h (.agg cs.toArray) := .mk fun ρ w hr hw => by
  subst hw
  simp only [execOp, hr _ _ hx, run_loadAt_mid w b o t cs du hc.range hu hd hi, Sem.run_bind, Sem.run_pure, Result.andThen_ok]

/-! ### addresses -/
theorem sizeOf_of {e s : Nat} (hs : (P.info? e).map (·.size) = some s) (w : World) : (sizeOf e).run P w = .ok s w := by
  cases hq : P.info? e with
  | none => simp [hq] at hs
  | some i => simp [hq] at hs; simp [sizeOf, typeInfo, hq, hs]
theorem Pu.idx {t e : TypeId} {x ix : Operand} {k : IntKind} {b o n c s : Nat} {iv : Int} (hx : ev env x = some (.slice (some ⟨b, o, none⟩) n c)) (hi : ev env ix = some (.int k iv)) (ht : P.underlying t = some (.slice e))
    (hs : (P.info? e).map (·.size) = some s) (hr : 0 ≤ iv ∧ iv < n) : Pu P ⟨d, .indexAddr t x ix, ty, pos, af, g⟩ env h (.pointer (some ⟨b, o + iv.toNat * s, none⟩)) := .mk fun ρ w hρ _ => by
  simp [execOp, hρ _ _ hx, hρ _ _ hi, Instr.indexAt, asIntOf, run_underlying ht, sizeOf_of hs, hr.1, hr.2, Addr.add_mid]
/-- Elements of one cell. -/
theorem Pu.idx1 {t e : TypeId} {x ix : Operand} {k : IntKind} {b o n c : Nat} {iv : Int} (hx : ev env x = some (.slice (some ⟨b, o, none⟩) n c)) (hi : ev env ix = some (.int k iv)) (ht : P.underlying t = some (.slice e))
    (hs : (P.info? e).map (·.size) = some 1) (hr : 0 ≤ iv ∧ iv < n) : Pu P ⟨d, .indexAddr t x ix, ty, pos, af, g⟩ env h (.pointer (some ⟨b, o + iv.toNat, none⟩)) := by
  have := Pu.idx (h := h) (d := d) (ty := ty) (pos := pos) (af := af) (g := g) hx hi ht hs hr
  rwa [Nat.mul_one] at this
/-- Type and offset of a field. -/
def fieldOf : List Field → Nat → Option (TypeId × Nat)
  | ⟨_, t, o, _, _, _, _⟩ :: _, 0 => some (t, o)
  | _ :: r, n + 1 => fieldOf r n
  | [], _ => none
theorem fieldOf_spec : ∀ {l : List Field} {i t o : Nat}, fieldOf l i = some (t, o) → ∃ f, l[i]? = some f ∧ f.type = t ∧ f.offset = o
  | ⟨n, t', o', a, b, c, e⟩ :: r, 0, t, o, h => by simp [fieldOf] at h; exact ⟨_, rfl, h.1, h.2⟩
  | f :: r, n + 1, t, o, h => by
    have : fieldOf r n = some (t, o) := by cases f; simpa [fieldOf] using h
    obtain ⟨f', h1, h2⟩ := fieldOf_spec this
    exact ⟨f', by simpa using h1, h2⟩
  | [], _, _, _, h => by simp [fieldOf] at h
theorem Pu.fieldAddr {s : TypeId} {x : Operand} {i : Nat} {b o z t o' : Nat} {fs : List Field} (hx : ev env x = some (.pointer (some ⟨b, o, none⟩))) (hu : P.underlying s = some (.struct fs.toArray)) (hf : fieldOf fs i = some (t, o'))
    (hz : (P.info? t).map (·.size) = some (z + 1)) : Pu P ⟨d, .fieldAddr s x i, ty, pos, af, g⟩ env h (.pointer (some ⟨b, o + o', none⟩)) := .mk fun ρ w hρ _ => by
  obtain ⟨f, h1, h2, h3⟩ := fieldOf_spec hf
  subst h2; subst h3
  simp [execOp, hρ _ _ hx, Instr.fieldAt, run_underlying hu, h1, Instr.sureAddr, fieldPlace, sizeOf_of hz, Addr.add_mid]
/-- A part of a struct by value. -/
theorem Pu.field {s : TypeId} {x : Operand} {i t o : Nat} {cs : Array Value} {fs : List Field} {du : TypeDesc} {v : Value} (hx : ev env x = some (.agg cs)) (hu : P.underlying s = some (.struct fs.toArray)) (hf : fieldOf fs i = some (t, o))
    (hd : P.underlying t = some du) (hr : du.isRow = false) (hv : cs[o]? = some v) : Pu P ⟨d, .field s x i, ty, pos, af, g⟩ env h v := .mk fun ρ w hρ _ => by
  obtain ⟨f, h1, h2, h3⟩ := fieldOf_spec hf
  subst h2; subst h3
  have hagg : (isAgg f.type).run P w = .ok false w := by
    unfold isAgg
    rw [Sem.run_bind, run_underlying hd w]
    cases du <;> simp_all
  simp [execOp, hρ _ _ hx, Instr.field, run_underlying hu, h1, asAgg, part, hagg, hv]
theorem Pu.fieldRow {s : TypeId} {x : Operand} {i n t o : Nat} {cs : Array Value} {fs : List Field} {du : TypeDesc} (hx : ev env x = some (.agg cs)) (hu : P.underlying s = some (.struct fs.toArray)) (hf : fieldOf fs i = some (t, o))
    (hd : P.underlying t = some du) (hr : du.isRow = true) (hn : (P.info? t).map (·.size) = some n) : Pu P ⟨d, .field s x i, ty, pos, af, g⟩ env h (.agg (cs.extract o (o + n))) := .mk fun ρ w hρ _ => by
  obtain ⟨f, h1, h2, h3⟩ := fieldOf_spec hf
  subst h2; subst h3
  have hagg : (isAgg f.type).run P w = .ok true w := by
    unfold isAgg
    rw [Sem.run_bind, run_underlying hd w]
    cases du <;> simp_all
  simp [execOp, hρ _ _ hx, Instr.field, run_underlying hu, h1, asAgg, part, hagg, sizeOf_of hn]

/-! ### stores -/
theorem setRow_hp {w : World} {b : Nat} {t : TypeId} {cs cs' : List Value} (hr : Row w.heap b t cs) :
    Hp (w.setRow b cs'.toArray).heap w (w.setRow b cs'.toArray) ∧ (w.setRow b cs'.toArray).heap.size = w.heap.size ∧ Row (w.setRow b cs'.toArray).heap b t cs' ∧ ∀ k, k ≠ b → (w.setRow b cs'.toArray).heap[k]? = w.heap[k]? :=
  ⟨⟨rfl, rfl, rfl, rfl⟩, by simp, setRow_heap w b _ _ t _ hr, fun k hk => setRow_other w b k _ hk⟩
/-- Some cells of a block are written. -/
def splice (cs : List Value) (o : Nat) (vs : List Value) : List Value := cs.take o ++ vs ++ cs.drop (o + vs.length)
theorem splice_one (cs : List Value) (o : Nat) (v : Value) (ho : o < cs.length) : splice cs o [v] = cs.set o v := by
  unfold splice
  apply List.ext_getElem?
  intro j
  simp only [List.length_singleton, List.getElem?_append, List.getElem?_take, List.length_append, List.length_take, List.getElem?_drop, List.getElem?_set]
  have : min o cs.length = o := by omega
  by_cases h1 : j < o
  · simp [this, h1, Nat.ne_of_gt h1]; omega
  · by_cases h2 : j = o
    · subst h2; simp [this, ho]
    · have h3 : ¬ j < o + 1 := by omega
      simp [this, h3, Ne.symm h2]
      congr 1; omega
theorem Eff.storeN {t t0 : TypeId} {x y : Operand} {b o : Nat} {v : Value} {cs : List Value} (hx : ev env x = some (.pointer (some ⟨b, o, none⟩))) (hy : ev env y = some v) (hi : (P.info? t).map (·.size) = some v.cells.size)
    (h1 : ∀ u ∈ v.cells.toList, u.oneCell' = true) (hr : Row h b t0 cs) (ho : o + v.cells.size ≤ cs.length) :
    Eff P ⟨d, .store t x y, ty, pos, af, g⟩ env h (fun u h' => h'.size = h.size ∧ Row h' b t0 (splice cs o v.cells.toList) ∧ ∀ k, k ≠ b → h'[k]? = h[k]?) := .mk fun ρ w hρ hw => by
  subst hw
  have hst := run_storeCells_at P b o t0 v.cells.toList 0 cs.toArray w hr (by simpa using ho) h1
  simp only [Nat.add_zero] at hst
  obtain ⟨k1, k2, k3, k4⟩ := setRow_hp (cs' := splice cs o v.cells.toList) hr
  refine ⟨undef, _, .inr ⟨?_, rfl⟩, k1, k2, k3, k4⟩
  simp [execOp, hρ _ _ hx, hρ _ _ hy, Instr.storeAt, Instr.sureAddr, storeVar, sizeOf_of hi, hst, splice]
theorem Eff.storeN0 {t t0 : TypeId} {x y : Operand} {b o : Nat} {v : Value} {cs : List Value} (hx : ev env x = some (.pointer (some ⟨b, o, none⟩))) (hy : ev env y = some v) (hi : (P.info? t).map (·.size) = some v.cells.size)
    (h1 : ∀ u ∈ v.cells.toList, u.oneCell' = true) (hr : Row h b t0 cs) (ho : o + v.cells.size ≤ cs.length) :
    Eff P ⟨d, .store t x y, ty, pos, af, g⟩ env h (fun u h' => u = undef ∧ h'.size = h.size ∧ Row h' b t0 (splice cs o v.cells.toList) ∧ ∀ k, k ≠ b → h'[k]? = h[k]?) := .mk fun ρ w hρ hw => by
  subst hw
  have hst := run_storeCells_at P b o t0 v.cells.toList 0 cs.toArray w hr (by simpa using ho) h1
  simp only [Nat.add_zero] at hst
  obtain ⟨k1, k2, k3, k4⟩ := setRow_hp (cs' := splice cs o v.cells.toList) hr
  refine ⟨undef, _, .inr ⟨?_, rfl⟩, k1, rfl, k2, k3, k4⟩
  simp [execOp, hρ _ _ hx, hρ _ _ hy, Instr.storeAt, Instr.sureAddr, storeVar, sizeOf_of hi, hst, splice]
theorem oneCell_of {v : Value} (h : v.oneCell' = true) : v.cells = #[v] := by cases v <;> simp_all [Value.oneCell', Value.cells]
theorem Eff.store {t t0 : TypeId} {x y : Operand} {b o : Nat} {v : Value} {cs : List Value} (hx : ev env x = some (.pointer (some ⟨b, o, none⟩))) (hy : ev env y = some v) (hi : (P.info? t).map (·.size) = some 1)
    (h1 : v.oneCell' = true) (hr : Row h b t0 cs) (ho : o < cs.length) :
    Eff P ⟨d, .store t x y, ty, pos, af, g⟩ env h (fun u h' => h'.size = h.size ∧ Row h' b t0 (cs.set o v) ∧ ∀ k, k ≠ b → h'[k]? = h[k]?) := .mk fun ρ w hρ hw => by
  have hc := oneCell_of h1
  have := (Eff.storeN (d := d) (ty := ty) (pos := pos) (af := af) (g := g) hx hy (by rw [hc]; exact hi) (by rw [hc]; simpa using h1) hr (by rw [hc]; simp; omega)).run ρ w hρ hw
  rw [hc] at this
  simpa [splice_one cs o v ho] using this

theorem Eff.store0 {t t0 : TypeId} {x y : Operand} {b o : Nat} {v : Value} {cs : List Value} (hx : ev env x = some (.pointer (some ⟨b, o, none⟩))) (hy : ev env y = some v) (hi : (P.info? t).map (·.size) = some 1)
    (h1 : v.oneCell' = true) (hr : Row h b t0 cs) (ho : o < cs.length) :
    Eff P ⟨d, .store t x y, ty, pos, af, g⟩ env h (fun u h' => u = undef ∧ h'.size = h.size ∧ Row h' b t0 (cs.set o v) ∧ ∀ k, k ≠ b → h'[k]? = h[k]?) := .mk fun ρ w hρ hw => by
  have hc := oneCell_of h1
  have := (Eff.storeN0 (d := d) (ty := ty) (pos := pos) (af := af) (g := g) hx hy (by rw [hc]; exact hi) (by rw [hc]; simpa using h1) hr (by rw [hc]; simp; omega)).run ρ w hρ hw
  rw [hc] at this
  simpa [splice_one cs o v ho] using this
/-! ### new blocks -/
def Newly (o : Obj) (h h' : Heap) : Prop := h'.size = h.size + 1 ∧ h'[h.size]? = some o ∧ ∀ k, k < h.size → h'[k]? = h[k]?
theorem Newly.ext {o : Obj} {h h' : Heap} (hn : Newly o h h') : Ext h h' := ⟨by have := hn.1; omega, hn.2.2⟩
theorem newly_push (w : World) (o : Obj) : Newly o w.heap (w.heap.push o) := ⟨by simp, by simp, fun k hk => by rw [Array.getElem?_push_lt hk]; simp [hk]⟩
theorem Eff.box {t : TypeId} {x : Operand} {v : Value} (hx : ev env x = some v) :
    Eff P ⟨d, .box t x, ty, pos, af, g⟩ env h (fun u h' => u = .pointer (some ⟨h.size, 0, none⟩) ∧ Newly (.cells v.cells t) h h') := .mk fun ρ w hρ hw => by
  subst hw
  refine ⟨_, { w with heap := w.heap.push (.cells v.cells t) }, .inl ?_, ⟨rfl, rfl, rfl, rfl⟩, rfl, newly_push w _⟩
  simp [execOp, hρ _ _ hx, Instr.box, newVar, newRow]
theorem Eff.alloc {t : TypeId} {z : Value} (hz : ∀ w, (zeroValue t).run P w = .ok z w) :
    Eff P ⟨d, .alloc t, ty, pos, af, g⟩ env h (fun u h' => u = .pointer (some ⟨h.size, 0, none⟩) ∧ Newly (.cells z.cells t) h h') := .mk fun ρ w hρ hw => by
  subst hw
  refine ⟨_, { w with heap := w.heap.push (.cells z.cells t) }, .inl ?_, ⟨rfl, rfl, rfl, rfl⟩, rfl, newly_push w _⟩
  simp [execOp, Instr.alloc, newVar, newRow, hz]
/-- A struct (or an array) put together. -/
theorem Pu.build {t : TypeId} {ps : List (Nat × Operand)} {vs : List Value} (cs : Array Value) (hv : evs env (ps.map (·.2)) = some vs) (hb : P.built t ((ps.map (·.1)).zip vs) = some cs) :
    Pu P ⟨d, .build t ps.toArray, ty, pos, af, g⟩ env h (.agg cs) := .mk fun ρ w hρ _ => by
  have hvs : (ps.map (·.2)).map ρ = vs := hρ.list hv
  have e : ((ps.toArray.map fun (i, x) => (i, ρ x))).toList = (ps.map (·.1)).zip vs := by
    rw [← hvs]
    apply List.ext_getElem?
    intro j
    simp only [List.map_toArray, List.getElem?_map, List.getElem?_zip_eq_some, List.map_map]
    rw [List.zip_map', List.getElem?_map]
    rfl
  have hr := run_build w t (ps.toArray.map fun (i, x) => (i, ρ x)) cs (by rw [e]; exact hb)
  simp only [execOp, Sem.run_bind]
  rw [hr]
  rfl

/-! ### slices that are read -/
/-- v is a slice of n elements, whose cells are these. -/
def Rd (h : Heap) (v : Value) (n : Nat) (cs : List Value) : Prop :=
  (n = 0 ∧ cs = [] ∧ ∃ a c, v = .slice a 0 c ∧ c ≤ maxLen) ∨ (0 < n ∧ ∃ b o cap, v = .slice (some ⟨b, o, none⟩) n cap ∧ n ≤ cap ∧ cap ≤ maxLen ∧ b < h.size ∧ Cells h b o cs)
theorem Rd.keep {h h' : Heap} {v : Value} {n : Nat} {cs : List Value} (hr : Rd h v n cs) (hs : h.size ≤ h'.size) (hk : ∀ b, v.ownBlock = some b → 0 < n → b < h.size → h'[b]? = h[b]?) : Rd h' v n cs := by
  rcases hr with hr | ⟨hn, b, o, cap, rfl, h1, h2, h3, h4⟩
  · exact .inl hr
  · exact .inr ⟨hn, b, o, cap, rfl, h1, h2, by omega, h4.keep (hk b rfl hn h3)⟩
theorem Rd.ext {h h' : Heap} {v : Value} {n : Nat} {cs : List Value} (hr : Rd h v n cs) (he : Ext h h') : Rd h' v n cs := hr.keep he.1 (fun b _ _ hb => he.2 b hb)
theorem Rd.nil (h : Heap) : Rd h (.slice none 0 0) 0 [] := .inl ⟨rfl, rfl, none, 0, rfl, Nat.zero_le _⟩
theorem Rd.slice {h : Heap} {v : Value} {n : Nat} {cs : List Value} (hr : Rd h v n cs) : ∃ a c, v = .slice a n c ∧ n ≤ c ∧ c ≤ maxLen := by
  rcases hr with ⟨rfl, _, a, c, rfl, hc⟩ | ⟨_, b, o, cap, rfl, h1, h2, _⟩
  · exact ⟨a, c, rfl, Nat.zero_le _, hc⟩
  · exact ⟨_, cap, rfl, h1, h2⟩
theorem Rd.posn {h : Heap} {v : Value} {n : Nat} {cs : List Value} (hr : Rd h v n cs) (hn : 0 < n) : ∃ b o c, v = .slice (some ⟨b, o, none⟩) n c ∧ n ≤ c ∧ c ≤ maxLen ∧ b < h.size ∧ Cells h b o cs := by
  rcases hr with ⟨rfl, _⟩ | ⟨_, r⟩
  · omega
  · exact r
theorem Rd.at {h : Heap} {b o n c : Nat} {cs : List Value} (hr : Rd h (.slice (some ⟨b, o, none⟩) n c) n cs) {i : Nat} {x : Value} (hx : cs[i]? = some x) : cellAt h b (o + i) = some x := by
  rcases hr with ⟨_, rfl, _⟩ | ⟨_, b', o', cap, hv, _, _, _, hc⟩
  · simp at hx
  · cases hv; exact hc i _ hx

/-! ### slices of one's own -/
def Own (h : Heap) (base : Nat) (e : TypeId) (size : Nat) (v : Value) (n : Nat) (xs : List Value) : Prop :=
  xs.length = n * size ∧ ((v = .slice none 0 0 ∧ n = 0) ∨
    ∃ g cap cur, v = .slice (some ⟨g, 0, none⟩) n cap ∧ base ≤ g ∧ h[g]? = some (.cells cur e (0, 0)) ∧ n ≤ cap ∧ cap ≤ maxLen ∧ cur.size = cap * size ∧ cur.toList.take (n * size) = xs)
theorem Own.nil (h : Heap) (base : Nat) (e : TypeId) (size : Nat) : Own h base e size (.slice none 0 0) 0 [] := ⟨by simp, .inl ⟨rfl, rfl⟩⟩
theorem Own.keep {h h' : Heap} {base : Nat} {e : TypeId} {size : Nat} {v : Value} {n : Nat} {xs : List Value} (ho : Own h base e size v n xs) (hk : ∀ b, v.ownBlock = some b → base ≤ b → b < h.size → h'[b]? = h[b]?) : Own h' base e size v n xs := by
  refine ⟨ho.1, ?_⟩
  rcases ho.2 with h1 | ⟨g, cap, cur, rfl, hb, hg, r⟩
  · exact .inl h1
  · exact .inr ⟨g, cap, cur, rfl, hb, (hk g rfl hb (Array.getElem?_eq_some_iff.1 hg).1).trans hg, r⟩
theorem Own.ext {h h' : Heap} {base : Nat} {e : TypeId} {size : Nat} {v : Value} {n : Nat} {xs : List Value} (ho : Own h base e size v n xs) (he : Ext h h') : Own h' base e size v n xs := ho.keep (fun b _ _ hb => he.2 b hb)
theorem Own.rd {h : Heap} {base : Nat} {e : TypeId} {size : Nat} {v : Value} {n : Nat} {xs : List Value} (ho : Own h base e size v n xs) : Rd h v n xs := by
  rcases ho.2 with ⟨rfl, rfl⟩ | ⟨g, cap, cur, rfl, hb, hg, h1, h2, h3, h4⟩
  · exact .inl ⟨rfl, List.eq_nil_of_length_eq_zero (by simpa using ho.1), none, 0, rfl, Nat.zero_le _⟩
  · by_cases hn : n = 0
    · subst hn
      exact .inl ⟨rfl, List.eq_nil_of_length_eq_zero (by simpa using ho.1), _, cap, rfl, h2⟩
    · refine .inr ⟨by omega, g, 0, cap, rfl, h1, h2, (Array.getElem?_eq_some_iff.1 hg).1, fun j u hu => ?_⟩
      rw [Nat.zero_add, cellAt_of hg]
      rw [← h4, List.getElem?_take] at hu
      split at hu
      · simpa using hu
      · cases hu
theorem Own.block {h : Heap} {base : Nat} {e : TypeId} {size : Nat} {v : Value} {n : Nat} {xs : List Value} (ho : Own h base e size v n xs) {b : Nat} (hb : v.ownBlock = some b) : base ≤ b ∧ b < h.size := by
  rcases ho.2 with ⟨rfl, rfl⟩ | ⟨g, cap, cur, rfl, hb', hg, _⟩
  · cases hb
  · cases hb; exact ⟨hb', (Array.getElem?_eq_some_iff.1 hg).1⟩
theorem Own.mono {h : Heap} {base base' : Nat} {e : TypeId} {size : Nat} {v : Value} {n : Nat} {xs : List Value} (ho : Own h base e size v n xs) (hb : base' ≤ base) : Own h base' e size v n xs := by
  refine ⟨ho.1, ?_⟩
  rcases ho.2 with h1 | ⟨g, cap, cur, rfl, hb', r⟩
  · exact .inl h1
  · exact .inr ⟨g, cap, cur, rfl, by omega, r⟩
theorem Own.len {h : Heap} {base : Nat} {e : TypeId} {size : Nat} {v : Value} {n : Nat} {xs : List Value} (ho : Own h base e size v n xs) : n ≤ maxLen := by
  rcases ho.2 with ⟨rfl, rfl⟩ | ⟨g, cap, cur, rfl, _, _, h1, h2, _⟩
  · exact Nat.zero_le _
  · omega
theorem Own.apart {h : Heap} {base : Nat} {e : TypeId} {size : Nat} {v : Value} {n : Nat} {xs : List Value} (ho : Own h base e size v n xs) {p : Nat} {t : TypeId} {cs : List Value} (hr : Row h p t cs) (hne : Nat.beq t e = false) : v.ownBlock ≠ some p := by
  intro he
  rcases ho.2 with ⟨rfl, _⟩ | ⟨g, cap, cur, rfl, _, hg, _⟩
  · cases he
  · cases he
    unfold Row at hr
    rw [hg] at hr
    injection hr with hr
    injection hr with _ ht _
    subst ht
    simp at hne
/-- The block of a slice of one's own, whose elements are of one cell: what is stored into it is still one's own. -/
theorem Own.row {h : Heap} {base g c : Nat} {e : TypeId} {n : Nat} {xs : List Value} (ho : Own h base e 1 (.slice (some ⟨g, 0, none⟩) n c) n xs) : ∃ cs, Row h g e cs ∧ n ≤ cs.length ∧ base ≤ g ∧ cs.take n = xs ∧
    ∀ h' cs', Row h' g e cs' → cs'.length = cs.length → Own h' base e 1 (.slice (some ⟨g, 0, none⟩) n c) n (cs'.take n) := by
  rcases ho.2 with ⟨h0, _⟩ | ⟨g', cap, cur, hv, hb, hg, h1, h2, h3, h4⟩
  · cases h0
  · cases hv
    have hs : cur.toList.length = c := by rw [Array.length_toList, h3, Nat.mul_one]
    refine ⟨cur.toList, by unfold Row; simpa using hg, by omega, hb, by simpa using h4, fun h' cs' hr hl => ⟨by simp; omega, .inr ⟨g, c, cs'.toArray, rfl, hb, hr, h1, h2, by simp; omega, by simp⟩⟩⟩
/-- What append leaves: the new slice is one's own; of the old blocks only the one that it lay in may have changed. -/
def Appended (base : Nat) (e : TypeId) (size : Nat) (v : Value) (n : Nat) (xs : List Value) (h : Heap) (v' : Value) (h' : Heap) : Prop :=
  Own h' base e size v' n xs ∧ h.size ≤ h'.size ∧ (∀ k, k < h.size → v.ownBlock ≠ some k → h'[k]? = h[k]?) ∧ (v' = .slice none 0 0 → v = .slice none 0 0 ∧ n = 0) ∧
    ∀ k, v'.ownBlock = some k → v.ownBlock = some k ∨ h.size ≤ k
theorem Appended.bel {base : Nat} {e : TypeId} {size : Nat} {v v' : Value} {n m : Nat} {xs ys : List Value} {h h' : Heap} (ha : Appended base e size v n xs h v' h') (ho : Own h base e size v m ys) (hb : base ≤ h.size) : Bel base h h' :=
  ⟨ha.2.1, fun k hk => ha.2.2.1 k (by omega) (fun e => by have := (ho.block e).1; omega)⟩
theorem append_block {w w' : World} {t e : TypeId} {i : TypeInfo} {z v v' : Value} {base size n m c : Nat} {a : Addr} {xs news : List Value} (ht : P.underlying t = some (.slice e)) (hi : P.info? e = some i) (hz : i.zero = some z) (hsz : i.size = size) (ho : Own w.heap base e size v n xs)
    (hl : news.length = m * size) (hn : ∀ j u, news[j]? = some u → w.cell? (a.add j) = some u) (h1 : ∀ u ∈ news, u.oneCell' = true) (h63 : n + m ≤ maxLen) (hbytes : (n + m) * i.bytes ≤ 140737488355328)
    (hr : (Builtin.append_ #[t, t] ty #[v, .slice (some a) m c]).run P w = .ok v' w') (hnil : v' = .slice none 0 0 ↔ v = .slice none 0 0 ∧ m = 0) : ∀ k, v'.ownBlock = some k → v.ownBlock = some k ∨ w.heap.size ≤ k := by
  intro k hk
  have hsmall : n + m ≤ 9223372036854775807 := by unfold maxLen at h63; omega
  subst hsz
  rcases ho.2 with ⟨rfl, rfl⟩ | ⟨g', cap, cur, rfl, hb, hg, h2, h3, h4, h5⟩
  · by_cases hm : m = 0
    · have := hnil.2 ⟨rfl, hm⟩
      rw [this] at hk
      cases hk
    · have := run_append_nil (P := P) w t ty e i z ht hi hz a m c news hl hn (by omega) (by omega) (by rw [Nat.zero_add] at hbytes; omega)
      rw [this] at hr
      injection hr with hv _
      rw [← hv] at hk
      simp [Value.ownBlock] at hk
      omega
  · by_cases hm : n + m ≤ cap
    · have := run_append_room (P := P) w t ty e i ht hi g' n cap cur hg a m c news hl hn h1 hm (by rw [hl, ← Nat.add_mul, h4]; exact Nat.mul_le_mul_right _ hm)
      rw [this] at hr
      injection hr with hv _
      rw [← hv] at hk
      exact .inl hk
    · have hcs : ∀ j v, xs[j]? = some v → w.cell? ((⟨g', 0, none⟩ : Addr).add j) = some v := fun j u hu => by
        rw [Addr.add_mid, cell_eq, Nat.zero_add, cellAt_of hg]
        rw [← h5, List.getElem?_take] at hu
        split at hu
        · simpa using hu
        · cases hu
      have := run_append_grow (P := P) w t ty e i z ht hi hz ⟨g', 0, none⟩ n cap xs ho.1 hcs a m c news hl hn (by omega) (by omega) (growslice_fits (by omega) hbytes)
      rw [this] at hr
      injection hr with hv _
      rw [← hv] at hk
      simp [Value.ownBlock] at hk
      omega
theorem Eff.appendOwn {x y : Operand} {t e : TypeId} {i : TypeInfo} {z v s : Value} {base size n m : Nat} {xs news : List Value} (hx : ev env x = some v) (hy : ev env y = some s) (ht : P.underlying t = some (.slice e)) (hi : P.info? e = some i)
    (hz : i.zero = some z) (hsz : i.size = size) (hby : i.bytes ≤ 1048576) (hzs : z.cells.size = size) (hpos : 0 < size) (ho : Own h base e size v n xs) (hs : Rd h s m news) (hl : news.length = m * size) (h1 : ∀ u ∈ news, u.oneCell' = true)
    (hle : n + m ≤ 134217728) (hb : base ≤ h.size) :
    Eff P ⟨d, .call { callee := .builtin .append, args := #[x, y], argTypes := #[t, t] }, ty, pos, af, g⟩ env h (fun v' h' => Appended base e size v (n + m) (xs ++ news) h v' h') := .mk fun ρ w hρ hw => by
  subst hw
  have hbytes : (n + m) * i.bytes ≤ 140737488355328 := Nat.le_trans (Nat.mul_le_mul hle hby) (by decide)
  have h63 : n + m ≤ maxLen := by unfold maxLen; omega
  have hrun : ∀ (a : Addr) (c : Nat), s = .slice (some a) m c → (∀ j u, news[j]? = some u → w.cell? (a.add j) = some u) →
      ∃ v' w', (Builtin.append_ #[t, t] ty #[v, s]).run P w = .ok v' w' ∧ w'.ownsRow base e size v' (n + m) (xs ++ news) ∧ w.grownBy w' v.ownBlock ∧ (v' = .slice none 0 0 ↔ v = .slice none 0 0 ∧ m = 0) := fun a c hs' hn => by
    subst hs'
    exact run_append_own (P := P) w base t ty e i z size i.bytes ht hi hz hsz rfl hzs hpos v n xs ho a m c news hl hn h1 h63 hbytes hb
  have hfin : ∀ (a : Addr) (c : Nat), s = .slice (some a) m c → (∀ j u, news[j]? = some u → w.cell? (a.add j) = some u) →
      ∃ v' w', ((execOp ρ ⟨d, .call { callee := .builtin .append, args := #[x, y], argTypes := #[t, t] }, ty, pos, af, g⟩).run P w = .ok (.value v') w' ∨ ((execOp ρ ⟨d, .call { callee := .builtin .append, args := #[x, y], argTypes := #[t, t] }, ty, pos, af, g⟩).run P w = .ok .skip w' ∧ v' = undef)) ∧ Hp w'.heap w w' ∧ Appended base e size v (n + m) (xs ++ news) w.heap v' w'.heap := fun a c hs' hn => by
    obtain ⟨v', w', hr, hown, hgr, hnil⟩ := hrun a c hs' hn
    have hblk := fun (hn : ∀ j u, news[j]? = some u → w.cell? (a.add j) = some u) (hr : (Builtin.append_ #[t, t] ty #[v, .slice (some a) m c]).run P w = .ok v' w') => append_block (P := P) ht hi hz hsz ho hl hn h1 h63 hbytes hr hnil
    refine ⟨v', w', .inl ?_, ⟨rfl, hgr.os, hgr.tape, hgr.output⟩, hown, hgr.size, fun k hk hne => hgr.block k hk (fun e => hne e.symm), fun e => ?_, hblk hn (by subst hs'; exact hr)⟩
    · simp only [execOp, resolve, invoke, builtin, Sem.run_bind, Sem.run_pure, Result.andThen_ok]
      simp [hρ _ _ hx, hρ _ _ hy, hr]
    · obtain ⟨e1, e2⟩ := hnil.1 e
      refine ⟨e1, ?_⟩
      rcases ho.2 with ⟨_, rfl⟩ | ⟨g', cap, cur, hv, _⟩
      · omega
      · rw [e1] at hv; cases hv
  rcases hs with ⟨rfl, rfl, a, c, rfl, _⟩ | ⟨_, b, o, c, rfl, _, _, _, hcs⟩
  · -- nothing to append: the slice as it was
    cases a with
    | some a => exact hfin a c rfl (fun j u hu => by simp at hu)
    | none =>
      rcases ho.2 with ⟨rfl, rfl⟩ | ⟨g', cap, cur, rfl, hbg, hg, hnc, r⟩
      · refine ⟨.slice none 0 0, w, .inl ?_, Hp.self w, ?_⟩
        · simp [execOp, resolve, invoke, builtin, hρ _ _ hx, hρ _ _ hy, Builtin.append_, run_underlying ht, sizeOf, typeInfo, hi, Builtin.lenOf, Builtin.firstCells]
        · have hx0 : xs = [] := List.eq_nil_of_length_eq_zero (by simpa using ho.1)
          subst hx0
          exact ⟨Own.nil _ _ _ _, Nat.le_refl _, fun _ _ _ => rfl, fun _ => ⟨rfl, rfl⟩, fun k hk => .inl hk⟩
      · refine ⟨.slice (some ⟨g', 0, none⟩) n cap, w, .inl ?_, Hp.self w, ?_⟩
        · simp [execOp, resolve, invoke, builtin, hρ _ _ hx, hρ _ _ hy, Builtin.append_, run_underlying ht, sizeOf, typeInfo, hi, Builtin.lenOf, Builtin.firstCells, hnc, storeCells]
        · exact ⟨by simpa using ho, Nat.le_refl _, fun _ _ _ => rfl, (fun e => by cases e), fun k hk => .inl hk⟩
  · exact hfin _ _ rfl (fun j u hu => by rw [Addr.add_mid, cell_eq]; exact hcs j u hu)
end
end Go.E
