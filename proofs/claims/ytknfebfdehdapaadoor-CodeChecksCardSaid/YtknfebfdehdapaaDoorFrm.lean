/- From a row's reading of its arguments to facts on the heap, and from a contract to what the row asks. No program in sight. -/
import Derived.Test.YtknfebfdehdapaaDoorMor
import Derived.OpenShut
import Derived.ShutString
import Derived.ChangeOld
import Derived.Below
import Derived.Deep.Matrix
namespace Go.E
open Go Go.RowKit Go.ChangeShapes Go.WideShapes Go.ChangeAt
set_option linter.unusedVariables false

theorem below_of {w w' : World} (hh : Hp w'.heap w w') (he : Ext w.heap w'.heap) : Below w.heap.size w w' := ⟨hh.os, hh.tape, hh.output, he.1, he.2⟩
/-- A law's contract as the row wants it. -/
theorem Meets.row {P : Program} {f : FuncId} {args : Array Value} {w : World} (h : Meets P f args w.heap (fun u h' => u = .bool true ∧ Ext w.heap h')) :
    Calls P f args w fun e w' => e = .returned (.bool true) ∧ Below w.heap.size w w' :=
  (h w rfl).mono fun e w' ⟨v, he, hh, hv, hx⟩ => by subst hv; exact ⟨he, below_of hh hx⟩

section
variable {P : Program} {W : World} {H : Type} {enc : TypeId × Value → H}
/-- A slice of integers that came in. -/
theorem open_rd {t e : TypeId} {k : IntKind} {base fuel : Nat} {held : Bool} {a : Option Addr} {len cap : Nat} {x : DataW H × List MemPlace} (ht : P.underlying t = some (.slice e)) (he : P.underlying e = some (.int k)) (hc : P.cellsOf e = 1)
    (h : DataW.trod enc P W base (fun _ => true) held fuel t (Value.slice a len cap).cells.toList = some x) :
    ∃ zs : List Int, Rd W.heap (.slice a len cap) len (zs.map (Value.int k)) ∧ zs.length = len ∧ ∀ z ∈ zs, (Lit.int k z).wf = true := by
  rcases open_ints ht he hc h with ⟨hcs, _⟩ | ⟨x, l, c, zs, hcs, _, hl, hm, hz, _, hcell, hwz⟩
  · simp [Value.cells] at hcs
    obtain ⟨rfl, rfl, rfl⟩ := hcs
    exact ⟨[], Rd.nil _, rfl, fun z hz => by cases hz⟩
  · simp [Value.cells] at hcs
    obtain ⟨rfl, rfl, rfl⟩ := hcs
    have hz' : zs.length = cap := by simpa using hz
    refine ⟨zs.take len, ?_, by simp; omega, fun z hz => hwz z (List.mem_of_mem_take hz)⟩
    by_cases h0 : len = 0
    · subst h0
      exact .inl ⟨rfl, by simp, _, _, rfl, hm⟩
    · have h1 := hcell 0 (by omega)
      obtain ⟨b, o, spot⟩ := x
      have hspot : spot = none := by simpa [Addr.add] using World.cell?_spot h1
      subst hspot
      refine .inr ⟨by omega, b, o, cap, rfl, hl, hm, ?_, ?_⟩
      · have := World.block_lt_of_cell? W _ h1
        simpa [Addr.add] using this
      · intro j v hv
        rw [List.getElem?_map, List.getElem?_take] at hv
        split at hv
        · rename_i hj
          have h2 := hcell j (by omega)
          rw [Addr.add_mid, cell_eq] at h2
          rw [h2]
          rw [List.getElem?_eq_getElem (by omega : j < zs.length)] at hv
          simp only [Option.map_some, Option.some.injEq] at hv
          rw [← hv]
          simp [List.getD, List.getElem?_eq_getElem (by omega : j < zs.length)]
        · simp at hv
/-- A slice of bytes that came in. -/
theorem open_bs {t e : TypeId} {base fuel : Nat} {held : Bool} {a : Option Addr} {len cap : Nat} {x : DataW H × List MemPlace} (ht : P.underlying t = some (.slice e)) (he : P.underlying e = some (.int .u8)) (hc : P.cellsOf e = 1)
    (h : DataW.trod enc P W base (fun _ => true) held fuel t (Value.slice a len cap).cells.toList = some x) :
    ∃ l : List UInt8, Rd W.heap (.slice a len cap) l.length (l.map u8) := by
  obtain ⟨zs, h1, h2, h3⟩ := open_rd ht he hc h
  refine ⟨zs.map fun z => UInt8.ofNat z.toNat, ?_⟩
  have e1 : (zs.map fun z => UInt8.ofNat z.toNat).map u8 = zs.map (Value.int .u8) := by
    rw [List.map_map]
    apply List.map_congr_left
    intro z hz
    have hw : 0 ≤ z ∧ z ≤ 255 := by
      have := h3 z hz
      simp [Lit.wf, IntKind.min, IntKind.max, IntKind.signed, IntKind.bits] at this
      omega
    have : z.toNat % 256 = z.toNat := Nat.mod_eq_of_lt (by omega)
    simp [u8, this]
    omega
  rw [e1, List.length_map, h2]
  exact h1
theorem mk_rd {k : IntKind} {a : Option Addr} {len cap : Nat} {zs : List Int} (hl : len ≤ cap) (hm : cap ≤ maxLen) (hz : zs.length = cap) (hnone : a = none → cap = 0)
    (hcell : ∀ x, a = some x → ∀ c, c < cap → W.cell? (x.add c) = some (.int k (zs.getD c 0))) : Rd W.heap (.slice a len cap) len ((zs.take len).map (Value.int k)) := by
  by_cases h0 : len = 0
  · subst h0
    exact .inl ⟨rfl, by simp, _, _, rfl, hm⟩
  · cases a with
    | none => have := hnone rfl; omega
    | some x =>
      have h1 := hcell x rfl 0 (by omega)
      obtain ⟨b, o, spot⟩ := x
      have hspot : spot = none := by simpa [Addr.add] using World.cell?_spot h1
      subst hspot
      refine .inr ⟨by omega, b, o, cap, rfl, hl, hm, ?_, ?_⟩
      · have := World.block_lt_of_cell? W _ h1
        simpa [Addr.add] using this
      · intro j v hv
        rw [List.getElem?_map, List.getElem?_take] at hv
        split at hv
        · rename_i hj
          have h2 := hcell _ rfl j (by omega)
          rw [Addr.add_mid, cell_eq] at h2
          rw [h2]
          rw [List.getElem?_eq_getElem (by omega : j < zs.length)] at hv
          simp only [Option.map_some, Option.some.injEq] at hv
          rw [← hv]
          simp [List.getD, List.getElem?_eq_getElem (by omega : j < zs.length)]
        · simp at hv
theorem bytes_of_ints (zs : List Int) (hw : ∀ z ∈ zs, (Lit.int .u8 z).wf = true) : (zs.map fun z => UInt8.ofNat z.toNat).map u8 = zs.map (Value.int .u8) := by
  rw [List.map_map]
  apply List.map_congr_left
  intro z hz
  have hw : 0 ≤ z ∧ z ≤ 255 := by
    have := hw z hz
    simp [Lit.wf, IntKind.min, IntKind.max, IntKind.signed, IntKind.bits] at this
    omega
  have : z.toNat % 256 = z.toNat := Nat.mod_eq_of_lt (by omega)
  simp [u8, this]
  omega
/-- A slice of slices of bytes that is read. -/
def Rows2 (h : Heap) (v : Value) (ls : List (List UInt8)) : Prop := ∃ vs : List Value, vs.length = ls.length ∧ Rd h v ls.length vs ∧ ∀ (i : Nat) (l : List UInt8), ls[i]? = some l → ∃ u, vs[i]? = some u ∧ Rd h u l.length (l.map u8)
theorem Rows2.ext {h h' : Heap} {v : Value} {ls : List (List UInt8)} (hr : Rows2 h v ls) (he : Ext h h') : Rows2 h' v ls := by
  obtain ⟨vs, h1, h2, h3⟩ := hr
  exact ⟨vs, h1, h2.ext he, fun i l hl => by obtain ⟨u, h4, h5⟩ := h3 i l hl; exact ⟨u, h4, h5.ext he⟩⟩
theorem open_bs2 {t e q : TypeId} {base fuel : Nat} {held : Bool} {a : Option Addr} {len cap : Nat} {x : DataW H × List MemPlace} (ht : P.underlying t = some (.slice e)) (he : P.underlying e = some (.slice q)) (hq : P.underlying q = some (.int .u8))
    (ce : P.cellsOf e = 1) (cq : P.cellsOf q = 1) (h : DataW.trod enc P W base (fun _ => true) held fuel t (Value.slice a len cap).cells.toList = some x) : ∃ ls : List (List UInt8), Rows2 W.heap (.slice a len cap) ls := by
  rcases Go.Deep.open_int_rows ht he hq ce cq h with ⟨hcs, _⟩ | ⟨x, l, c, A, L, C, Z, hcs, _, hl, hm, _, hr⟩
  · simp [Value.cells] at hcs
    obtain ⟨rfl, rfl, rfl⟩ := hcs
    exact ⟨[], [], rfl, Rd.nil _, fun i l hl => by simp at hl⟩
  · simp [Value.cells] at hcs
    obtain ⟨rfl, rfl, rfl⟩ := hcs
    refine ⟨(List.range len).map fun r => ((Z r).take (L r)).map fun z => UInt8.ofNat z.toNat, (List.range len).map fun r => Value.slice (A r) (L r) (C r), by simp, ?_, ?_⟩
    · by_cases h0 : len = 0
      · subst h0
        exact .inl ⟨by simp, by simp, _, _, rfl, hm⟩
      · have h1 := (hr 0 (by omega)).1
        obtain ⟨b, o, spot⟩ := x
        have hspot : spot = none := by simpa [Addr.add] using World.cell?_spot h1
        subst hspot
        refine .inr ⟨by simp; omega, b, o, cap, by simp, by simpa using hl, hm, ?_, ?_⟩
        · have := World.block_lt_of_cell? W _ h1
          simpa [Addr.add] using this
        · intro j v hv
          simp only [List.getElem?_map] at hv
          by_cases hj : j < len
          · rw [List.getElem?_range hj] at hv
            simp only [Option.map_some, Option.some.injEq] at hv
            have h2 := (hr j (by omega)).1
            rw [Addr.add_mid, cell_eq] at h2
            rw [h2, hv]
          · rw [List.getElem?_eq_none (by simpa using hj)] at hv
            cases hv
    · intro i l' hi
      simp only [List.getElem?_map] at hi
      by_cases hj : i < len
      · rw [List.getElem?_range hj] at hi
        simp only [Option.map_some, Option.some.injEq] at hi
        subst hi
        obtain ⟨_, h2, h3, h4, h5, h6, h7⟩ := hr i (by omega)
        refine ⟨.slice (A i) (L i) (C i), by simp [hj], ?_⟩
        have hw5 : ∀ z ∈ (Z i).take (L i), (Lit.int .u8 z).wf = true := fun z hz => h5 z (List.mem_of_mem_take hz)
        rw [bytes_of_ints _ hw5]
        have := mk_rd (W := W) (k := .u8) (a := A i) (zs := Z i) h2 h3 h4 h6 (fun x hx c hc => (h7 x hx).2 c hc)
        rw [List.length_map, List.length_take, h4, Nat.min_eq_left h2]
        exact this
      · rw [List.getElem?_eq_none (by simpa using hj)] at hi
        cases hi
theorem wf_u8 {n : Int} (h : (Lit.int .u8 n).wf = true) : 0 ≤ n ∧ n < 256 := by
  simp [Lit.wf, IntKind.min, IntKind.max, IntKind.bits, IntKind.signed] at h; omega
theorem wf_u64 {n : Int} (h : (Lit.int .u64 n).wf = true) : ∃ m : Nat, n = (m : Int) ∧ m < 18446744073709551616 := by
  simp [Lit.wf, IntKind.min, IntKind.max, IntKind.signed, IntKind.bits] at h
  exact ⟨n.toNat, by omega, by omega⟩
theorem wf_i64 {n : Int} (h : (Lit.int .i64 n).wf = true) : -9223372036854775808 ≤ n ∧ n ≤ 9223372036854775807 := by
  simp [Lit.wf, IntKind.min, IntKind.max, IntKind.signed, IntKind.bits] at h
  omega
end
end Go.E
