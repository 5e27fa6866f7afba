/- slices.Sort of ints, off the shelf. -/
import Derived.Test.YtkpdnpcmeadggaaDoorT
import Derived.Test.YtkpdnpcmeadggaaDoorEn3
import Derived.Shelf.Sort.Plain
import Derived.Shelf.Slices.In.SortNone
import Derived.Ground.NamesProg
namespace Go.Proofs
open Go.Shelf
def Tryd.laysSort_ren : Go.Shelf.Ren := ⟨fun | 189 => 47 | 125 => 56 | 257 => 55 | 128 => 70 | 129 => 71 | 294 => 61 | 295 => 62 | 296 => 63 | 297 => 64 | 298 => 65 | 299 => 66 | 216 => 67 | 300 => 68 | 301 => 69 | 328 => 74 | 329 => 75 | 330 => 76 | 331 => 77 | 332 => 78 | 215 => 79 | 343 => 85 | n => n, fun | 28 => 37 | 3 => 3 | 46 => 73 | 0 => 0 | 51 => 119 | 53 => 22 | 4 => 4 | 183 => 112 | 182 => 111 | 131 => 90 | 5 => 5 | 9 => 9 | 218 => 122 | 222 => 30 | 228 => 130 | 229 => 120 | n => n, fun n => n⟩
theorem Tryd.laysSort : Go.Proofs.Lays.n189 Tryd.prog Tryd.laysSort_ren := {
  mixed := by kernel_rfl
  f125 := Tryd.func56.trans (congrArg some (by kernel_rfl))
  f128 := Tryd.func70.trans (congrArg some (by kernel_rfl))
  f129 := Tryd.func71.trans (congrArg some (by kernel_rfl))
  f189 := Tryd.func47.trans (congrArg some (by kernel_rfl))
  f215 := Tryd.func79.trans (congrArg some (by kernel_rfl))
  f216 := Tryd.func67.trans (congrArg some (by kernel_rfl))
  f257 := Tryd.func55.trans (congrArg some (by kernel_rfl))
  f294 := Tryd.func61.trans (congrArg some (by kernel_rfl))
  f295 := Tryd.func62.trans (congrArg some (by kernel_rfl))
  f296 := Tryd.func63.trans (congrArg some (by kernel_rfl))
  f297 := Tryd.func64.trans (congrArg some (by kernel_rfl))
  f298 := Tryd.func65.trans (congrArg some (by kernel_rfl))
  f299 := Tryd.func66.trans (congrArg some (by kernel_rfl))
  f300 := Tryd.func68.trans (congrArg some (by kernel_rfl))
  f301 := Tryd.func69.trans (congrArg some (by kernel_rfl))
  f328 := Tryd.func74.trans (congrArg some (by kernel_rfl))
  f329 := Tryd.func75.trans (congrArg some (by kernel_rfl))
  f330 := Tryd.func76.trans (congrArg some (by kernel_rfl))
  f331 := Tryd.func77.trans (congrArg some (by kernel_rfl))
  f332 := Tryd.func78.trans (congrArg some (by kernel_rfl))
  f343 := Tryd.func85.trans (congrArg some (by kernel_rfl))
  t0 := Tryd.underlying0
  a0 := Tryd.isAgg0
  z0 := Tryd.sizeOf0
  v0 := Tryd.zeroValue0
  t3 := Tryd.underlying3
  a3 := Tryd.isAgg3
  z3 := Tryd.sizeOf3
  v3 := Tryd.zeroValue3
  t4 := Tryd.underlying4
  a4 := Tryd.isAgg4
  z4 := Tryd.sizeOf4
  v4 := Tryd.zeroValue4
  t5 := Tryd.underlying5
  a5 := Tryd.isAgg5
  z5 := Tryd.sizeOf5
  v5 := Tryd.zeroValue5
  t9 := Tryd.underlying9
  a9 := Tryd.isAgg9
  z9 := Tryd.sizeOf9
  v9 := Tryd.zeroValue9
  t28 := Tryd.underlying37
  a28 := Tryd.isAgg37
  z28 := Tryd.sizeOf37
  v28 := Tryd.zeroValue37
  t46 := Tryd.underlying73
  a46 := Tryd.isAgg73
  z46 := Tryd.sizeOf73
  v46 := Tryd.zeroValue73
  t51 := Tryd.underlying119
  a51 := Tryd.isAgg119
  z51 := Tryd.sizeOf119
  v51 := Tryd.zeroValue119
  t53 := Tryd.underlying22
  a53 := Tryd.isAgg22
  z53 := Tryd.sizeOf22
  v53 := Tryd.zeroValue22
  t131 := Tryd.underlying90
  a131 := Tryd.isAgg90
  z131 := Tryd.sizeOf90
  v131 := Tryd.zeroValue90
  t182 := Tryd.underlying111
  a182 := Tryd.isAgg111
  z182 := Tryd.sizeOf111
  v182 := Tryd.zeroValue111
  t183 := Tryd.underlying112
  a183 := Tryd.isAgg112
  z183 := Tryd.sizeOf112
  v183 := Tryd.zeroValue112
  t218 := Tryd.underlying122
  a218 := Tryd.isAgg122
  z218 := Tryd.sizeOf122
  v218 := Tryd.zeroValue122
  t222 := Tryd.underlying30
  a222 := Tryd.isAgg30
  z222 := Tryd.sizeOf30
  v222 := Tryd.zeroValue30
  t228 := Tryd.underlying130
  a228 := Tryd.isAgg130
  z228 := Tryd.sizeOf130
  v228 := Tryd.zeroValue130
  t229 := Tryd.underlying120
  a229 := Tryd.isAgg120
  z229 := Tryd.sizeOf120
  v229 := Tryd.zeroValue120 }
end Go.Proofs
namespace Go.Proofs.YtkpdnpcmeadggaaDoor
open Go.Shelf Go.RowKit
open Go Go.E
set_option linter.unusedVariables false
theorem map_putCells {f : Int → Value} (l m : List Int) (sp : List Value) (h : m.length = l.length) : Go.Sort.putCells f 0 m.toArray (l.map f ++ sp).toArray = (m.map f ++ sp).toArray := by
  refine Array.ext_getElem? fun k => ?_
  unfold Go.Sort.putCells
  rw [Array.getElem?_mapIdx, List.getElem?_toArray, List.getElem?_toArray]
  by_cases hk : k < m.length
  · rw [List.getElem?_append_left (by simp; omega), List.getElem?_append_left (by simpa using hk)]
    have hk2 : k < l.length := by omega
    simp [hk, hk2]
  · rw [List.getElem?_append_right (by simp; omega), List.getElem?_append_right (by simp; omega)]
    simp only [List.length_map, h]
    cases sp[k - l.length]? with
    | none => rfl
    | some v =>
      simp only [Option.map_some, List.size_toArray]
      rw [if_neg (by omega)]
theorem sortI_ok {ro : Ro} {own : Chs} {K : Value → Ro → Chs → Prop} {a : Option Addr} {c : Nat} {t : TypeId} {l : List Int} (hn : l.length ≤ 1000000000)
    (hk : K (.tuple #[]) ro (.sl a l.length c t 1 ((l.mergeSort fun x y => decide (x ≤ y)).map (Value.int .i64)) :: own)) : CallOk Tryd.prog 47 #[.slice a l.length c] ro (.sl a l.length c t 1 (l.map (Value.int .i64)) :: own) K := by
  have hsl : (l.mergeSort fun x y => decide (x ≤ y)).length = l.length := (List.mergeSort_perm _ _).length_eq
  refine ⟨fun w hs => .inl ⟨Tryd.call47 _ _, ?_⟩⟩
  obtain ⟨hc, _, _⟩ := hs.cons
  obtain ⟨h1, h2, h3, h4⟩ := hc
  rcases h4 with ⟨rfl, h5, _⟩ | ⟨b, sp, rfl, h5, h6⟩
  · obtain rfl := List.eq_nil_of_length_eq_zero h5
    have h := Go.Proofs.Any.slices_Sort_int_none Tryd.laysSort none c w
    rw [show Tryd.laysSort_ren.f 189 = 47 by kernel_rfl] at h
    refine h.mono fun e w' ⟨he, hw⟩ => ?_
    subst hw
    exact ⟨_, he, ⟨rfl, rfl, rfl, rfl⟩, ro, _, Le.refl _, by simpa using hs, hk⟩
  · have hrow : w.heap[b]? = some (.cells (l.map (Value.int .i64) ++ sp).toArray t (0, 0)) := h5
    have hlt : b < w.heap.size := (Array.getElem?_eq_some_iff.1 hrow).1
    have hH : Go.Sort.Holds (Value.int .i64) w b 0 l.toArray := fun j hj => by
      have hj2 : j < l.length := by simpa using hj
      refine ⟨?_, ?_⟩
      · rw [cell_eq]
        refine Row.cell (h := w.heap) (t := t) hrow ?_
        rw [Nat.zero_add, List.getElem?_append_left (by simpa using hj2)]
        simp [hj2]
      · simp [World.frozen?, hrow]
    have h := Go.Proofs.Any.slices_Sort_int Tryd.laysSort b 0 c l w hH hlt (by omega)
    rw [show Tryd.laysSort_ren.f 189 = 47 by kernel_rfl] at h
    refine h.mono fun e w' ⟨he, n, os, hw⟩ => ?_
    have hnew : w'.heap = w.heap.modify b (Go.Sort.onCells (Go.Sort.putCells (Value.int .i64) 0 (l.mergeSort fun x y => decide (x ≤ y)).toArray)) ++ os := by rw [hw]; rfl
    have hsz : (w.heap.modify b (Go.Sort.onCells (Go.Sort.putCells (Value.int .i64) 0 (l.mergeSort fun x y => decide (x ≤ y)).toArray))).size = w.heap.size := by simp
    refine ⟨_, he, by rw [hw]; exact ⟨rfl, rfl, rfl, rfl⟩, ro, _, Le.refl _, ?_, hk⟩
    refine hs.put (fun k hk1 hk2 => ?_) ⟨?_, h2, h3, .inr ⟨b, sp, rfl, ?_, ?_⟩⟩ (fun k hk => .inl hk) (by simp [Chunk.fp])
    · simp only [Chunk.fp, List.mem_singleton] at hk2
      rw [hnew, Array.getElem?_append_left (by rw [hsz]; exact hk1), Array.getElem?_modify, if_neg (Ne.symm hk2)]
    · simp [hsl]
    · show w'.heap[b]? = _
      rw [hnew, Array.getElem?_append_left (by rw [hsz]; exact hlt), Array.getElem?_modify, if_pos rfl, hrow]
      simp only [Option.map_some, Go.Sort.onCells]
      rw [map_putCells l _ sp hsl]
    · simp only [List.length_map] at h6 ⊢; rw [hsl]; exact h6
end Go.Proofs.YtkpdnpcmeadggaaDoor
