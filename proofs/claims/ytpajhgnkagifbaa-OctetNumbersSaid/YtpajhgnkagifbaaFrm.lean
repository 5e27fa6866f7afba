/- From a row's reading of its arguments to facts on the heap, and from a contract to what the row asks. No program in sight. -/
import Derived.Test.YtpajhgnkagifbaaStp
import Derived.OpenShut
import Derived.ShutString
import Derived.ChangeOld
import Derived.Below
namespace Go.E
open Go Go.RowKit Go.ChangeShapes Go.WideShapes Go.ChangeAt
set_option linter.unusedVariables false

theorem below_of {w w' : World} (hh : Hp w'.heap w w') (he : Ext w.heap w'.heap) : Below w.heap.size w w' := ⟨hh.os, hh.tape, hh.output, he.1, he.2⟩
/-- A law's contract as the row wants it. -/
theorem Meets.row {P : Program} {f : FuncId} {args : Array Value} {w : World} (h : Meets P f args w.heap (fun u h' => u = .bool true ∧ Ext w.heap h')) :
    Calls P f args w fun e w' => e = .returned (.bool true) ∧ Below w.heap.size w w' :=
  (h w rfl).mono fun e w' ⟨v, he, hh, hv, hx⟩ => by subst hv; exact ⟨he, below_of hh hx⟩

section
variable {P : Program} {W : World} {H : Type} {enc : TypeId × Value → H}
/-- A slice of integers that came in. -/
theorem open_rd {t e : TypeId} {k : IntKind} {base fuel : Nat} {held : Bool} {a : Option Addr} {len cap : Nat} {x : DataW H × List MemPlace} (ht : P.underlying t = some (.slice e)) (he : P.underlying e = some (.int k)) (hc : P.cellsOf e = 1)
    (h : DataW.trod enc P W base (fun _ => true) held fuel t (Value.slice a len cap).cells.toList = some x) :
    ∃ zs : List Int, Rd W.heap (.slice a len cap) len (zs.map (Value.int k)) ∧ zs.length = len ∧ ∀ z ∈ zs, (Lit.int k z).wf = true := by
  rcases open_ints ht he hc h with ⟨hcs, _⟩ | ⟨x, l, c, zs, hcs, _, hl, hm, hz, _, hcell, hwz⟩
  · simp [Value.cells] at hcs
    obtain ⟨rfl, rfl, rfl⟩ := hcs
    exact ⟨[], Rd.nil _, rfl, fun z hz => by cases hz⟩
  · simp [Value.cells] at hcs
    obtain ⟨rfl, rfl, rfl⟩ := hcs
    have hz' : zs.length = cap := by simpa using hz
    refine ⟨zs.take len, ?_, by simp; omega, fun z hz => hwz z (List.mem_of_mem_take hz)⟩
    by_cases h0 : len = 0
    · subst h0
      exact .inl ⟨rfl, by simp, _, _, rfl, hm⟩
    · have h1 := hcell 0 (by omega)
      obtain ⟨b, o, spot⟩ := x
      have hspot : spot = none := by simpa [Addr.add] using World.cell?_spot h1
      subst hspot
      refine .inr ⟨by omega, b, o, cap, rfl, hl, hm, ?_, ?_⟩
      · have := World.block_lt_of_cell? W _ h1
        simpa [Addr.add] using this
      · intro j v hv
        rw [List.getElem?_map, List.getElem?_take] at hv
        split at hv
        · rename_i hj
          have h2 := hcell j (by omega)
          rw [Addr.add_mid, cell_eq] at h2
          rw [h2]
          rw [List.getElem?_eq_getElem (by omega : j < zs.length)] at hv
          simp only [Option.map_some, Option.some.injEq] at hv
          rw [← hv]
          simp [List.getD, List.getElem?_eq_getElem (by omega : j < zs.length)]
        · simp at hv
/-- A slice of bytes that came in. -/
theorem open_bs {t e : TypeId} {base fuel : Nat} {held : Bool} {a : Option Addr} {len cap : Nat} {x : DataW H × List MemPlace} (ht : P.underlying t = some (.slice e)) (he : P.underlying e = some (.int .u8)) (hc : P.cellsOf e = 1)
    (h : DataW.trod enc P W base (fun _ => true) held fuel t (Value.slice a len cap).cells.toList = some x) :
    ∃ l : List UInt8, Rd W.heap (.slice a len cap) l.length (l.map u8) := by
  obtain ⟨zs, h1, h2, h3⟩ := open_rd ht he hc h
  refine ⟨zs.map fun z => UInt8.ofNat z.toNat, ?_⟩
  have e1 : (zs.map fun z => UInt8.ofNat z.toNat).map u8 = zs.map (Value.int .u8) := by
    rw [List.map_map]
    apply List.map_congr_left
    intro z hz
    have hw : 0 ≤ z ∧ z ≤ 255 := by
      have := h3 z hz
      simp [Lit.wf, IntKind.min, IntKind.max, IntKind.signed, IntKind.bits] at this
      omega
    have : z.toNat % 256 = z.toNat := Nat.mod_eq_of_lt (by omega)
    simp [u8, this]
    omega
  rw [e1, List.length_map, h2]
  exact h1
theorem wf_u64 {n : Int} (h : (Lit.int .u64 n).wf = true) : ∃ m : Nat, n = (m : Int) ∧ m < 18446744073709551616 := by
  simp [Lit.wf, IntKind.min, IntKind.max, IntKind.signed, IntKind.bits] at h
  exact ⟨n.toNat, by omega, by omega⟩
theorem wf_i64 {n : Int} (h : (Lit.int .i64 n).wf = true) : -9223372036854775808 ≤ n ∧ n ≤ 9223372036854775807 := by
  simp [Lit.wf, IntKind.min, IntKind.max, IntKind.signed, IntKind.bits] at h
  omega
end
end Go.E
