/- slices.Sort of ints, off the shelf. -/
import Derived.Test.YtniofdklhlbphaaT
import Derived.Test.YtniofdklhlbphaaEn3
import Derived.Shelf.Sort.Plain
import Derived.Shelf.Slices.In.SortNone
import Derived.Ground.NamesProg
namespace Go.Proofs
open Go.Shelf
def Try.laysSort_ren : Go.Shelf.Ren := ⟨fun | 189 => 11 | 125 => 24 | 257 => 23 | 128 => 41 | 129 => 42 | 294 => 32 | 295 => 33 | 296 => 34 | 297 => 35 | 298 => 36 | 299 => 37 | 216 => 38 | 300 => 39 | 301 => 40 | 328 => 49 | 329 => 50 | 330 => 51 | 331 => 52 | 332 => 53 | 215 => 54 | 343 => 62 | n => n, fun | 28 => 30 | 3 => 3 | 46 => 65 | 0 => 0 | 51 => 85 | 53 => 42 | 4 => 4 | 183 => 77 | 182 => 76 | 131 => 82 | 5 => 5 | 9 => 9 | 218 => 91 | 222 => 95 | 228 => 97 | 229 => 98 | n => n, fun n => n⟩
theorem Try.laysSort : Go.Proofs.Lays.n189 Try.prog Try.laysSort_ren := {
  mixed := by kernel_rfl
  f125 := Try.func24.trans (congrArg some (by kernel_rfl))
  f128 := Try.func41.trans (congrArg some (by kernel_rfl))
  f129 := Try.func42.trans (congrArg some (by kernel_rfl))
  f189 := Try.func11.trans (congrArg some (by kernel_rfl))
  f215 := Try.func54.trans (congrArg some (by kernel_rfl))
  f216 := Try.func38.trans (congrArg some (by kernel_rfl))
  f257 := Try.func23.trans (congrArg some (by kernel_rfl))
  f294 := Try.func32.trans (congrArg some (by kernel_rfl))
  f295 := Try.func33.trans (congrArg some (by kernel_rfl))
  f296 := Try.func34.trans (congrArg some (by kernel_rfl))
  f297 := Try.func35.trans (congrArg some (by kernel_rfl))
  f298 := Try.func36.trans (congrArg some (by kernel_rfl))
  f299 := Try.func37.trans (congrArg some (by kernel_rfl))
  f300 := Try.func39.trans (congrArg some (by kernel_rfl))
  f301 := Try.func40.trans (congrArg some (by kernel_rfl))
  f328 := Try.func49.trans (congrArg some (by kernel_rfl))
  f329 := Try.func50.trans (congrArg some (by kernel_rfl))
  f330 := Try.func51.trans (congrArg some (by kernel_rfl))
  f331 := Try.func52.trans (congrArg some (by kernel_rfl))
  f332 := Try.func53.trans (congrArg some (by kernel_rfl))
  f343 := Try.func62.trans (congrArg some (by kernel_rfl))
  t0 := Try.underlying0
  a0 := Try.isAgg0
  z0 := Try.sizeOf0
  v0 := Try.zeroValue0
  t3 := Try.underlying3
  a3 := Try.isAgg3
  z3 := Try.sizeOf3
  v3 := Try.zeroValue3
  t4 := Try.underlying4
  a4 := Try.isAgg4
  z4 := Try.sizeOf4
  v4 := Try.zeroValue4
  t5 := Try.underlying5
  a5 := Try.isAgg5
  z5 := Try.sizeOf5
  v5 := Try.zeroValue5
  t9 := Try.underlying9
  a9 := Try.isAgg9
  z9 := Try.sizeOf9
  v9 := Try.zeroValue9
  t28 := Try.underlying30
  a28 := Try.isAgg30
  z28 := Try.sizeOf30
  v28 := Try.zeroValue30
  t46 := Try.underlying65
  a46 := Try.isAgg65
  z46 := Try.sizeOf65
  v46 := Try.zeroValue65
  t51 := Try.underlying85
  a51 := Try.isAgg85
  z51 := Try.sizeOf85
  v51 := Try.zeroValue85
  t53 := Try.underlying42
  a53 := Try.isAgg42
  z53 := Try.sizeOf42
  v53 := Try.zeroValue42
  t131 := Try.underlying82
  a131 := Try.isAgg82
  z131 := Try.sizeOf82
  v131 := Try.zeroValue82
  t182 := Try.underlying76
  a182 := Try.isAgg76
  z182 := Try.sizeOf76
  v182 := Try.zeroValue76
  t183 := Try.underlying77
  a183 := Try.isAgg77
  z183 := Try.sizeOf77
  v183 := Try.zeroValue77
  t218 := Try.underlying91
  a218 := Try.isAgg91
  z218 := Try.sizeOf91
  v218 := Try.zeroValue91
  t222 := Try.underlying95
  a222 := Try.isAgg95
  z222 := Try.sizeOf95
  v222 := Try.zeroValue95
  t228 := Try.underlying97
  a228 := Try.isAgg97
  z228 := Try.sizeOf97
  v228 := Try.zeroValue97
  t229 := Try.underlying98
  a229 := Try.isAgg98
  z229 := Try.sizeOf98
  v229 := Try.zeroValue98 }
end Go.Proofs
namespace Go.Proofs.Ytniofdklhlbphaa
open Go.Shelf Go.RowKit
open Go Go.E
set_option linter.unusedVariables false
theorem map_putCells {f : Int → Value} (l m : List Int) (sp : List Value) (h : m.length = l.length) : Go.Sort.putCells f 0 m.toArray (l.map f ++ sp).toArray = (m.map f ++ sp).toArray := by
  refine Array.ext_getElem? fun k => ?_
  unfold Go.Sort.putCells
  rw [Array.getElem?_mapIdx, List.getElem?_toArray, List.getElem?_toArray]
  by_cases hk : k < m.length
  · rw [List.getElem?_append_left (by simp; omega), List.getElem?_append_left (by simpa using hk)]
    have hk2 : k < l.length := by omega
    simp [hk, hk2]
  · rw [List.getElem?_append_right (by simp; omega), List.getElem?_append_right (by simp; omega)]
    simp only [List.length_map, h]
    cases sp[k - l.length]? with
    | none => rfl
    | some v =>
      simp only [Option.map_some, List.size_toArray]
      rw [if_neg (by omega)]
theorem sortI_ok {ro : Ro} {own : Chs} {K : Value → Ro → Chs → Prop} {a : Option Addr} {c : Nat} {t : TypeId} {l : List Int} (hn : l.length ≤ 1000000000)
    (hk : K (.tuple #[]) ro (.sl a l.length c t 1 ((l.mergeSort fun x y => decide (x ≤ y)).map (Value.int .i64)) :: own)) : CallOk Try.prog 11 #[.slice a l.length c] ro (.sl a l.length c t 1 (l.map (Value.int .i64)) :: own) K := by
  have hsl : (l.mergeSort fun x y => decide (x ≤ y)).length = l.length := (List.mergeSort_perm _ _).length_eq
  refine ⟨fun w hs => .inl ⟨Try.call11 _ _, ?_⟩⟩
  obtain ⟨hc, _, _⟩ := hs.cons
  obtain ⟨h1, h2, h3, h4⟩ := hc
  rcases h4 with ⟨rfl, h5, _⟩ | ⟨b, sp, rfl, h5, h6⟩
  · obtain rfl := List.eq_nil_of_length_eq_zero h5
    have h := Go.Proofs.Any.slices_Sort_int_none Try.laysSort none c w
    rw [show Try.laysSort_ren.f 189 = 11 by kernel_rfl] at h
    refine h.mono fun e w' ⟨he, hw⟩ => ?_
    subst hw
    exact ⟨_, he, ⟨rfl, rfl, rfl, rfl⟩, ro, _, Le.refl _, by simpa using hs, hk⟩
  · have hrow : w.heap[b]? = some (.cells (l.map (Value.int .i64) ++ sp).toArray t (0, 0)) := h5
    have hlt : b < w.heap.size := (Array.getElem?_eq_some_iff.1 hrow).1
    have hH : Go.Sort.Holds (Value.int .i64) w b 0 l.toArray := fun j hj => by
      have hj2 : j < l.length := by simpa using hj
      refine ⟨?_, ?_⟩
      · rw [cell_eq]
        refine Row.cell (h := w.heap) (t := t) hrow ?_
        rw [Nat.zero_add, List.getElem?_append_left (by simpa using hj2)]
        simp [hj2]
      · simp [World.frozen?, hrow]
    have h := Go.Proofs.Any.slices_Sort_int Try.laysSort b 0 c l w hH hlt (by omega)
    rw [show Try.laysSort_ren.f 189 = 11 by kernel_rfl] at h
    refine h.mono fun e w' ⟨he, n, os, hw⟩ => ?_
    have hnew : w'.heap = w.heap.modify b (Go.Sort.onCells (Go.Sort.putCells (Value.int .i64) 0 (l.mergeSort fun x y => decide (x ≤ y)).toArray)) ++ os := by rw [hw]; rfl
    have hsz : (w.heap.modify b (Go.Sort.onCells (Go.Sort.putCells (Value.int .i64) 0 (l.mergeSort fun x y => decide (x ≤ y)).toArray))).size = w.heap.size := by simp
    refine ⟨_, he, by rw [hw]; exact ⟨rfl, rfl, rfl, rfl⟩, ro, _, Le.refl _, ?_, hk⟩
    refine hs.put (fun k hk1 hk2 => ?_) ⟨?_, h2, h3, .inr ⟨b, sp, rfl, ?_, ?_⟩⟩ (fun k hk => .inl hk) (by simp [Chunk.fp])
    · simp only [Chunk.fp, List.mem_singleton] at hk2
      rw [hnew, Array.getElem?_append_left (by rw [hsz]; exact hk1), Array.getElem?_modify, if_neg (Ne.symm hk2)]
    · simp [hsl]
    · show w'.heap[b]? = _
      rw [hnew, Array.getElem?_append_left (by rw [hsz]; exact hlt), Array.getElem?_modify, if_pos rfl, hrow]
      simp only [Option.map_some, Go.Sort.onCells]
      rw [map_putCells l _ sp hsl]
    · simp only [List.length_map] at h6 ⊢; rw [hsl]; exact h6
end Go.Proofs.Ytniofdklhlbphaa
