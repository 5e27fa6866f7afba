/- slices.Sort of ints, off the shelf. -/
import Derived.Test.YtknfebfdehdapaaT
import Derived.Test.YtknfebfdehdapaaV20
import Derived.Shelf.Sort.Plain
import Derived.Shelf.Slices.In.SortNone
import Derived.Shelf.Lay
import Derived.Ground.NamesProg
namespace Go.Proofs.Ytknfebfdehdapaa
open Go.Shelf Go.RowKit
shelf_lay Lays.n189 Nm 189 at Try as Try.laysSort
open Go Go.E
set_option linter.unusedVariables false
theorem map_putCells {f : Int → Value} (l m : List Int) (sp : List Value) (h : m.length = l.length) : Go.Sort.putCells f 0 m.toArray (l.map f ++ sp).toArray = (m.map f ++ sp).toArray := by
  refine Array.ext_getElem? fun k => ?_
  unfold Go.Sort.putCells
  rw [Array.getElem?_mapIdx, List.getElem?_toArray, List.getElem?_toArray]
  by_cases hk : k < m.length
  · rw [List.getElem?_append_left (by simp; omega), List.getElem?_append_left (by simpa using hk)]
    have hk2 : k < l.length := by omega
    simp [hk, hk2]
  · rw [List.getElem?_append_right (by simp; omega), List.getElem?_append_right (by simp; omega)]
    simp only [List.length_map, h]
    cases sp[k - l.length]? with
    | none => rfl
    | some v =>
      simp only [Option.map_some, List.size_toArray]
      rw [if_neg (by omega)]
theorem sortI_ok {ro : Ro} {own : Chs} {K : Value → Ro → Chs → Prop} {a : Option Addr} {c : Nat} {t : TypeId} {l : List Int} (hn : l.length ≤ 1000000000)
    (hk : K (.tuple #[]) ro (.sl a l.length c t 1 ((l.mergeSort fun x y => decide (x ≤ y)).map (Value.int .i64)) :: own)) : CallOk Try.prog 11 #[.slice a l.length c] ro (.sl a l.length c t 1 (l.map (Value.int .i64)) :: own) K := by
  have hsl : (l.mergeSort fun x y => decide (x ≤ y)).length = l.length := (List.mergeSort_perm _ _).length_eq
  refine ⟨fun w hs => .inl ⟨Try.call11 _ _, ?_⟩⟩
  obtain ⟨hc, _, _⟩ := hs.cons
  obtain ⟨h1, h2, h3, h4⟩ := hc
  rcases h4 with ⟨rfl, h5, _⟩ | ⟨b, sp, rfl, h5, h6⟩
  · obtain rfl := List.eq_nil_of_length_eq_zero h5
    have h := Go.Proofs.Any.slices_Sort_int_none Try.laysSort none c w
    rw [show Try.laysSort_ren.f 189 = 11 by kernel_rfl] at h
    refine h.mono fun e w' ⟨he, hw⟩ => ?_
    subst hw
    exact ⟨_, he, ⟨rfl, rfl, rfl, rfl⟩, ro, _, Le.refl _, by simpa using hs, hk⟩
  · have hrow : w.heap[b]? = some (.cells (l.map (Value.int .i64) ++ sp).toArray t (0, 0)) := h5
    have hlt : b < w.heap.size := (Array.getElem?_eq_some_iff.1 hrow).1
    have hH : Go.Sort.Holds (Value.int .i64) w b 0 l.toArray := fun j hj => by
      have hj2 : j < l.length := by simpa using hj
      refine ⟨?_, ?_⟩
      · rw [cell_eq]
        refine Row.cell (h := w.heap) (t := t) hrow ?_
        rw [Nat.zero_add, List.getElem?_append_left (by simpa using hj2)]
        simp [hj2]
      · simp [World.frozen?, hrow]
    have h := Go.Proofs.Any.slices_Sort_int Try.laysSort b 0 c l w hH hlt (by omega)
    rw [show Try.laysSort_ren.f 189 = 11 by kernel_rfl] at h
    refine h.mono fun e w' ⟨he, n, os, hw⟩ => ?_
    have hnew : w'.heap = w.heap.modify b (Go.Sort.onCells (Go.Sort.putCells (Value.int .i64) 0 (l.mergeSort fun x y => decide (x ≤ y)).toArray)) ++ os := by rw [hw]; rfl
    have hsz : (w.heap.modify b (Go.Sort.onCells (Go.Sort.putCells (Value.int .i64) 0 (l.mergeSort fun x y => decide (x ≤ y)).toArray))).size = w.heap.size := by simp
    refine ⟨_, he, by rw [hw]; exact ⟨rfl, rfl, rfl, rfl⟩, ro, _, Le.refl _, ?_, hk⟩
    refine hs.put (fun k hk1 hk2 => ?_) ⟨?_, h2, h3, .inr ⟨b, sp, rfl, ?_, ?_⟩⟩ (fun k hk => .inl hk) (by simp [Chunk.fp])
    · simp only [Chunk.fp, List.mem_singleton] at hk2
      rw [hnew, Array.getElem?_append_left (by rw [hsz]; exact hk1), Array.getElem?_modify, if_neg (Ne.symm hk2)]
    · simp [hsl]
    · show w'.heap[b]? = _
      rw [hnew, Array.getElem?_append_left (by rw [hsz]; exact hlt), Array.getElem?_modify, if_pos rfl, hrow]
      simp only [Option.map_some, Go.Sort.onCells]
      rw [map_putCells l _ sp hsl]
    · simp only [List.length_map] at h6 ⊢; rw [hsl]; exact h6
end Go.Proofs.Ytknfebfdehdapaa
