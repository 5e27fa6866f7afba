/- slices.Sort of ints, off the shelf. -/
import Derived.Test.YtkpdnpcmeadggaaT
import Derived.Test.YtkpdnpcmeadggaaEn3
import Derived.Shelf.Sort.Plain
import Derived.Shelf.Slices.In.SortNone
import Derived.Ground.NamesProg
namespace Go.Proofs
open Go.Shelf
def Try.laysSort_ren : Go.Shelf.Ren := ⟨fun | 189 => 25 | 125 => 36 | 257 => 35 | 128 => 49 | 129 => 50 | 294 => 41 | 295 => 42 | 296 => 43 | 297 => 44 | 298 => 45 | 299 => 46 | 216 => 22 | 300 => 47 | 301 => 48 | 328 => 53 | 329 => 54 | 330 => 55 | 331 => 56 | 332 => 57 | 215 => 33 | 343 => 60 | n => n, fun | 28 => 40 | 3 => 3 | 46 => 81 | 0 => 0 | 51 => 92 | 53 => 22 | 4 => 4 | 183 => 85 | 182 => 84 | 131 => 89 | 5 => 5 | 9 => 9 | 218 => 95 | 222 => 29 | 228 => 102 | 229 => 100 | n => n, fun n => n⟩
theorem Try.laysSort : Go.Proofs.Lays.n189 Try.prog Try.laysSort_ren := {
  mixed := by kernel_rfl
  f125 := Try.func36.trans (congrArg some (by kernel_rfl))
  f128 := Try.func49.trans (congrArg some (by kernel_rfl))
  f129 := Try.func50.trans (congrArg some (by kernel_rfl))
  f189 := Try.func25.trans (congrArg some (by kernel_rfl))
  f215 := Try.func33.trans (congrArg some (by kernel_rfl))
  f216 := Try.func22.trans (congrArg some (by kernel_rfl))
  f257 := Try.func35.trans (congrArg some (by kernel_rfl))
  f294 := Try.func41.trans (congrArg some (by kernel_rfl))
  f295 := Try.func42.trans (congrArg some (by kernel_rfl))
  f296 := Try.func43.trans (congrArg some (by kernel_rfl))
  f297 := Try.func44.trans (congrArg some (by kernel_rfl))
  f298 := Try.func45.trans (congrArg some (by kernel_rfl))
  f299 := Try.func46.trans (congrArg some (by kernel_rfl))
  f300 := Try.func47.trans (congrArg some (by kernel_rfl))
  f301 := Try.func48.trans (congrArg some (by kernel_rfl))
  f328 := Try.func53.trans (congrArg some (by kernel_rfl))
  f329 := Try.func54.trans (congrArg some (by kernel_rfl))
  f330 := Try.func55.trans (congrArg some (by kernel_rfl))
  f331 := Try.func56.trans (congrArg some (by kernel_rfl))
  f332 := Try.func57.trans (congrArg some (by kernel_rfl))
  f343 := Try.func60.trans (congrArg some (by kernel_rfl))
  t0 := Try.underlying0
  a0 := Try.isAgg0
  z0 := Try.sizeOf0
  v0 := Try.zeroValue0
  t3 := Try.underlying3
  a3 := Try.isAgg3
  z3 := Try.sizeOf3
  v3 := Try.zeroValue3
  t4 := Try.underlying4
  a4 := Try.isAgg4
  z4 := Try.sizeOf4
  v4 := Try.zeroValue4
  t5 := Try.underlying5
  a5 := Try.isAgg5
  z5 := Try.sizeOf5
  v5 := Try.zeroValue5
  t9 := Try.underlying9
  a9 := Try.isAgg9
  z9 := Try.sizeOf9
  v9 := Try.zeroValue9
  t28 := Try.underlying40
  a28 := Try.isAgg40
  z28 := Try.sizeOf40
  v28 := Try.zeroValue40
  t46 := Try.underlying81
  a46 := Try.isAgg81
  z46 := Try.sizeOf81
  v46 := Try.zeroValue81
  t51 := Try.underlying92
  a51 := Try.isAgg92
  z51 := Try.sizeOf92
  v51 := Try.zeroValue92
  t53 := Try.underlying22
  a53 := Try.isAgg22
  z53 := Try.sizeOf22
  v53 := Try.zeroValue22
  t131 := Try.underlying89
  a131 := Try.isAgg89
  z131 := Try.sizeOf89
  v131 := Try.zeroValue89
  t182 := Try.underlying84
  a182 := Try.isAgg84
  z182 := Try.sizeOf84
  v182 := Try.zeroValue84
  t183 := Try.underlying85
  a183 := Try.isAgg85
  z183 := Try.sizeOf85
  v183 := Try.zeroValue85
  t218 := Try.underlying95
  a218 := Try.isAgg95
  z218 := Try.sizeOf95
  v218 := Try.zeroValue95
  t222 := Try.underlying29
  a222 := Try.isAgg29
  z222 := Try.sizeOf29
  v222 := Try.zeroValue29
  t228 := Try.underlying102
  a228 := Try.isAgg102
  z228 := Try.sizeOf102
  v228 := Try.zeroValue102
  t229 := Try.underlying100
  a229 := Try.isAgg100
  z229 := Try.sizeOf100
  v229 := Try.zeroValue100 }
end Go.Proofs
namespace Go.Proofs.Ytkpdnpcmeadggaa
open Go.Shelf Go.RowKit
open Go Go.E
set_option linter.unusedVariables false
theorem map_putCells {f : Int → Value} (l m : List Int) (sp : List Value) (h : m.length = l.length) : Go.Sort.putCells f 0 m.toArray (l.map f ++ sp).toArray = (m.map f ++ sp).toArray := by
  refine Array.ext_getElem? fun k => ?_
  unfold Go.Sort.putCells
  rw [Array.getElem?_mapIdx, List.getElem?_toArray, List.getElem?_toArray]
  by_cases hk : k < m.length
  · rw [List.getElem?_append_left (by simp; omega), List.getElem?_append_left (by simpa using hk)]
    have hk2 : k < l.length := by omega
    simp [hk, hk2]
  · rw [List.getElem?_append_right (by simp; omega), List.getElem?_append_right (by simp; omega)]
    simp only [List.length_map, h]
    cases sp[k - l.length]? with
    | none => rfl
    | some v =>
      simp only [Option.map_some, List.size_toArray]
      rw [if_neg (by omega)]
theorem sortI_ok {ro : Ro} {own : Chs} {K : Value → Ro → Chs → Prop} {a : Option Addr} {c : Nat} {t : TypeId} {l : List Int} (hn : l.length ≤ 1000000000)
    (hk : K (.tuple #[]) ro (.sl a l.length c t 1 ((l.mergeSort fun x y => decide (x ≤ y)).map (Value.int .i64)) :: own)) : CallOk Try.prog 25 #[.slice a l.length c] ro (.sl a l.length c t 1 (l.map (Value.int .i64)) :: own) K := by
  have hsl : (l.mergeSort fun x y => decide (x ≤ y)).length = l.length := (List.mergeSort_perm _ _).length_eq
  refine ⟨fun w hs => .inl ⟨Try.call25 _ _, ?_⟩⟩
  obtain ⟨hc, _, _⟩ := hs.cons
  obtain ⟨h1, h2, h3, h4⟩ := hc
  rcases h4 with ⟨rfl, h5, _⟩ | ⟨b, sp, rfl, h5, h6⟩
  · obtain rfl := List.eq_nil_of_length_eq_zero h5
    have h := Go.Proofs.Any.slices_Sort_int_none Try.laysSort none c w
    rw [show Try.laysSort_ren.f 189 = 25 by kernel_rfl] at h
    refine h.mono fun e w' ⟨he, hw⟩ => ?_
    subst hw
    exact ⟨_, he, ⟨rfl, rfl, rfl, rfl⟩, ro, _, Le.refl _, by simpa using hs, hk⟩
  · have hrow : w.heap[b]? = some (.cells (l.map (Value.int .i64) ++ sp).toArray t (0, 0)) := h5
    have hlt : b < w.heap.size := (Array.getElem?_eq_some_iff.1 hrow).1
    have hH : Go.Sort.Holds (Value.int .i64) w b 0 l.toArray := fun j hj => by
      have hj2 : j < l.length := by simpa using hj
      refine ⟨?_, ?_⟩
      · rw [cell_eq]
        refine Row.cell (h := w.heap) (t := t) hrow ?_
        rw [Nat.zero_add, List.getElem?_append_left (by simpa using hj2)]
        simp [hj2]
      · simp [World.frozen?, hrow]
    have h := Go.Proofs.Any.slices_Sort_int Try.laysSort b 0 c l w hH hlt (by omega)
    rw [show Try.laysSort_ren.f 189 = 25 by kernel_rfl] at h
    refine h.mono fun e w' ⟨he, n, os, hw⟩ => ?_
    have hnew : w'.heap = w.heap.modify b (Go.Sort.onCells (Go.Sort.putCells (Value.int .i64) 0 (l.mergeSort fun x y => decide (x ≤ y)).toArray)) ++ os := by rw [hw]; rfl
    have hsz : (w.heap.modify b (Go.Sort.onCells (Go.Sort.putCells (Value.int .i64) 0 (l.mergeSort fun x y => decide (x ≤ y)).toArray))).size = w.heap.size := by simp
    refine ⟨_, he, by rw [hw]; exact ⟨rfl, rfl, rfl, rfl⟩, ro, _, Le.refl _, ?_, hk⟩
    refine hs.put (fun k hk1 hk2 => ?_) ⟨?_, h2, h3, .inr ⟨b, sp, rfl, ?_, ?_⟩⟩ (fun k hk => .inl hk) (by simp [Chunk.fp])
    · simp only [Chunk.fp, List.mem_singleton] at hk2
      rw [hnew, Array.getElem?_append_left (by rw [hsz]; exact hk1), Array.getElem?_modify, if_neg (Ne.symm hk2)]
    · simp [hsl]
    · show w'.heap[b]? = _
      rw [hnew, Array.getElem?_append_left (by rw [hsz]; exact hlt), Array.getElem?_modify, if_pos rfl, hrow]
      simp only [Option.map_some, Go.Sort.onCells]
      rw [map_putCells l _ sp hsl]
    · simp only [List.length_map] at h6 ⊢; rw [hsl]; exact h6
end Go.Proofs.Ytkpdnpcmeadggaa
