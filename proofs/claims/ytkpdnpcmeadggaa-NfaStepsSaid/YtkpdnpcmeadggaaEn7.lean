/- Maps whose keys are texts, arrays or structs. No program in sight. -/
import Derived.Test.YtkpdnpcmeadggaaEn2
import Derived.WideKeyArr
import Derived.StringKeys
import Derived.DeepKeys5
namespace Go.E
open Go
set_option linter.unusedVariables false
set_option linter.unusedSimpArgs false
set_option linter.unusedSectionVars false
/-- How keys of a sort are told: so that a map finds them. -/
structure KeyEnc (P : Program) (kt : TypeId) {κ : Type} (kv : κ → Value) (ok : κ → Prop) : Prop where
  law : WideMaps.KeyLaw P kt
  is : ∀ k, ok k → ∃ l, keyOf P kt (kv k) = some l
  inj : ∀ a b, kv a = kv b → a = b
section
variable {κ ν : Type}
def entG (kv : κ → Value) (vv : ν → Value) (p : κ × ν × Nat) : MapEntry := { key := kv p.1, val := vv p.2.1, born := p.2.2 }
def mapG (kv : κ → Value) (vv : ν → Value) (l : List (κ × ν × Nat)) (c : Nat) : Obj := .map (l.map (entG kv vv)).toArray c
structure MapOk (ok : κ → Prop) (l : List (κ × ν × Nat)) : Prop where
  nodup : (l.map (·.1)).Nodup
  all : ∀ p ∈ l, ok p.1
variable [DecidableEq κ]
def getG : List (κ × ν × Nat) → κ → Option ν
  | [], _ => none
  | p :: r, k => if k = p.1 then some p.2.1 else getG r k
def putG : List (κ × ν × Nat) → Nat → κ → ν → List (κ × ν × Nat)
  | [], c, k, v => [(k, v, c)]
  | p :: r, c, k, v => if k = p.1 then (k, v, p.2.2) :: r else p :: putG r c k v
theorem get_none : ∀ {l : List (κ × ν × Nat)} {k : κ}, (∀ p ∈ l, p.1 ≠ k) → getG l k = none ∧ ∀ c v, putG l c k v = l ++ [(k, v, c)]
  | [], k, h => ⟨rfl, fun _ _ => rfl⟩
  | p :: r, k, h => by
    have hp : ¬ k = p.1 := fun e => h p (by simp) e.symm
    obtain ⟨h1, h2⟩ := get_none (l := r) (k := k) (fun q hq => h q (by simp [hq]))
    exact ⟨by rw [getG, if_neg hp]; exact h1, fun c v => by rw [putG, if_neg hp, h2]; rfl⟩
theorem get_at : ∀ {l : List (κ × ν × Nat)} {j : Nat} {p : κ × ν × Nat}, (l.map (·.1)).Nodup → l[j]? = some p → getG l p.1 = some p.2.1 ∧ ∀ c v, putG l c p.1 v = l.set j (p.1, v, p.2.2)
  | [], j, p, hn, h => by simp at h
  | q :: r, 0, p, hn, h => by
    simp at h; subst h
    exact ⟨by rw [getG, if_pos rfl], fun c v => by rw [putG, if_pos rfl]; rfl⟩
  | q :: r, j + 1, p, hn, h => by
    have hn2 : q.1 ∉ r.map (·.1) ∧ (r.map (·.1)).Nodup := by simpa using hn
    have h : r[j]? = some p := by simpa using h
    have hne : ¬ p.1 = q.1 := fun e => hn2.1 (e ▸ List.mem_map_of_mem (List.mem_of_getElem? h))
    obtain ⟨h1, h2⟩ := get_at hn2.2 h
    exact ⟨by rw [getG, if_neg hne]; exact h1, fun c v => by rw [putG, if_neg hne, h2]; rfl⟩
theorem put_mem : ∀ {l : List (κ × ν × Nat)} {c : Nat} {k : κ} {v : ν} {p : κ × ν × Nat}, p ∈ putG l c k v → p.1 = k ∨ p ∈ l
  | [], c, k, v, p, h => by simp [putG] at h; exact .inl (by rw [h])
  | q :: r, c, k, v, p, h => by
    rw [putG] at h
    split at h
    · rcases List.mem_cons.1 h with rfl | h
      · exact .inl rfl
      · exact .inr (by simp [h])
    · rcases List.mem_cons.1 h with rfl | h
      · exact .inr (by simp)
      · rcases put_mem h with h | h
        · exact .inl h
        · exact .inr (by simp [h])
theorem MapOk.put {ok : κ → Prop} {l : List (κ × ν × Nat)} (h : MapOk ok l) {k : κ} (hk : ok k) (c : Nat) (v : ν) : MapOk ok (putG l c k v) := by
  refine ⟨?_, fun p hp => ?_⟩
  · obtain ⟨hn, ha⟩ := h
    clear ha
    induction l with
    | nil => simp [putG]
    | cons q r ih =>
      have hn2 : q.1 ∉ r.map (·.1) ∧ (r.map (·.1)).Nodup := by simpa using hn
      rw [putG]
      split
      · rename_i e; subst e; simpa using hn
      · rename_i e
        rw [List.map_cons, List.nodup_cons]
        refine ⟨fun hmo => ?_, ih hn2.2⟩
        obtain ⟨p, hp, hpe⟩ := List.mem_map.1 hmo
        rcases put_mem hp with h | h
        · exact e (h.symm.trans hpe)
        · exact hn2.1 (hpe ▸ List.mem_map_of_mem h)
  · rcases put_mem hp with e | hp
    · rw [e]; exact hk
    · exact h.all p hp
theorem MapOk.nil {ok : κ → Prop} : MapOk ok ([] : List (κ × ν × Nat)) := ⟨by simp, by simp⟩
theorem getG_putG {l : List (κ × ν × Nat)} {c : Nat} {k j : κ} {v : ν} : getG (putG l c k v) j = if j = k then some v else getG l j := by
  induction l with
  | nil => simp only [putG, getG]
  | cons p r ih =>
    unfold putG
    split
    · rename_i h
      simp only [getG]
      by_cases hj : j = k
      · simp [hj]
      · rw [if_neg hj, if_neg hj, if_neg (fun e => hj (e.trans h.symm))]
    · rename_i h
      simp only [getG]
      rw [ih]
      by_cases hj : j = p.1
      · rw [if_pos hj, if_pos hj, if_neg (fun e => h (e.symm.trans hj))]
      · rw [if_neg hj, if_neg hj]
variable {P : Program} {T : TT} [hT : TTab P T] {ty : TypeId} {env : Env} {ro : Ro} {own : Chs} {K : Value → Ro → Chs → Prop} {kt : TypeId} {kv : κ → Value} {vv : ν → Value} {ok : κ → Prop}
theorem KeyEnc.find (E : KeyEnc P kt kv ok) {l : List (κ × ν × Nat)} (hmo : MapOk ok l) {k : κ} (hk : ok k) (w : World) :
    ((Instr.findKey kt (kv k) (l.map (entG kv vv))).run P w = .ok none w ∧ getG l k = none ∧ ∀ c v, putG l c k v = l ++ [(k, v, c)]) ∨
    ∃ (j : Nat) (p : κ × ν × Nat), (Instr.findKey kt (kv k) (l.map (entG kv vv))).run P w = .ok (some (j, vv p.2.1)) w ∧ l[j]? = some p ∧ p.1 = k ∧ getG l k = some p.2.1 ∧ ∀ c v, putG l c k v = l.set j (k, v, p.2.2) := by
  obtain ⟨lx, hlx⟩ := E.is k hk
  rcases E.law.find w hlx (l.map (entG kv vv)) (fun e he => by
    obtain ⟨p, hp, rfl⟩ := List.mem_map.1 he
    exact E.is p.1 (hmo.all p hp)) with ⟨h1, h2⟩ | ⟨j, e, h1, h2, h3⟩
  · obtain ⟨g1, g2⟩ := get_none (l := l) (k := k) (fun p hp e => h2 (entG kv vv p) (List.mem_map_of_mem hp) (congrArg kv e))
    exact .inl ⟨h1, g1, g2⟩
  · rw [List.getElem?_map] at h2
    obtain ⟨p, hp, rfl⟩ := Option.map_eq_some_iff.1 h2
    obtain rfl := E.inj _ _ h3
    obtain ⟨g1, g2⟩ := get_at hmo.nodup hp
    exact .inr ⟨j, p, h1, hp, rfl, g1, g2⟩
theorem OpOk.lookupG {t et : TypeId} {x y : Operand} {b c : Nat} {k : κ} {l : List (κ × ν × Nat)} {z : Value} {f : Chunk → Chs} (hx : ev env x = some (.map (some b))) (hy : ev env y = some (kv k)) (ht : P.underlying t = some (.map kt et))
    (E : KeyEnc P kt kv ok) (hmo : MapOk ok l) (hkk : ok k) (hz : (P.info? et).map (fun i => i.zero) = some (some z)) [hb : HasObj own b (mapG kv vv l c) f] (hk : K (((getG l k).map vv).getD z) ro own) : OpOk P (.lookup t x y false) ty env ro own K :=
  OpOk.pu (fun h hs d pos af g => .mk fun ρ w hρ hw => by
    have hg : h[b]? = some (.map (l.map (entG kv vv)).toArray c) := (hb.repl (.obj 0 default)).get hs
    subst hw
    obtain ⟨i, hi, hi2⟩ := Option.map_eq_some_iff.1 hz
    obtain ⟨lx, hlx⟩ := E.is k hkk
    have hc := fun em => E.law.check w em hlx
    rcases E.find (vv := vv) hmo hkk w with ⟨h1, h2, h3⟩ | ⟨j, q, h1, h2, h3, h4, h5⟩
    · rw [h2]
      simp [execOp, hρ _ _ hx, hρ _ _ hy, Instr.lookup, run_underlying ht, MapKept.run_getObj_map hg, hc, h1, zeroValue, typeInfo, hi, hi2, Result.andThen]
    · rw [h4]
      simp [execOp, hρ _ _ hx, hρ _ _ hy, Instr.lookup, run_underlying ht, MapKept.run_getObj_map hg, hc, h1, Result.andThen]) hk
theorem OpOk.lookupOkG {t et : TypeId} {x y : Operand} {b c : Nat} {k : κ} {l : List (κ × ν × Nat)} {z : Value} {f : Chunk → Chs} (hx : ev env x = some (.map (some b))) (hy : ev env y = some (kv k)) (ht : P.underlying t = some (.map kt et))
    (E : KeyEnc P kt kv ok) (hmo : MapOk ok l) (hkk : ok k) (hz : (P.info? et).map (fun i => i.zero) = some (some z)) [hb : HasObj own b (mapG kv vv l c) f] (hk : K (.tuple #[((getG l k).map vv).getD z, .bool (getG l k).isSome]) ro own) : OpOk P (.lookup t x y true) ty env ro own K :=
  OpOk.pu (fun h hs d pos af g => .mk fun ρ w hρ hw => by
    have hg : h[b]? = some (.map (l.map (entG kv vv)).toArray c) := (hb.repl (.obj 0 default)).get hs
    subst hw
    obtain ⟨i, hi, hi2⟩ := Option.map_eq_some_iff.1 hz
    obtain ⟨lx, hlx⟩ := E.is k hkk
    have hc := fun em => E.law.check w em hlx
    rcases E.find (vv := vv) hmo hkk w with ⟨h1, h2, h3⟩ | ⟨j, q, h1, h2, h3, h4, h5⟩
    · rw [h2]
      simp [execOp, hρ _ _ hx, hρ _ _ hy, Instr.lookup, run_underlying ht, MapKept.run_getObj_map hg, hc, h1, zeroValue, typeInfo, hi, hi2, Result.andThen]
    · rw [h4]
      simp [execOp, hρ _ _ hx, hρ _ _ hy, Instr.lookup, run_underlying ht, MapKept.run_getObj_map hg, hc, h1, Result.andThen]) hk
theorem OpOk.mapUpdateG {t et : TypeId} {x y z : Operand} {b c : Nat} {k : κ} {v : ν} {l : List (κ × ν × Nat)} {f : Chunk → Chs} (hx : ev env x = some (.map (some b))) (hy : ev env y = some (kv k)) (hz : ev env z = some (vv v)) (ht : P.underlying t = some (.map kt et))
    (E : KeyEnc P kt kv ok) (hmo : MapOk ok l) (hkk : ok k) [hb : HasObj own b (mapG kv vv l c) f] (hk : ∀ c', K undef ro (f (.obj b (mapG kv vv (putG l c k v) c')))) : OpOk P (.mapUpdate t x y z) ty env ro own K :=
  ⟨fun h hs d pos af g => ⟨fun ρ w hρ hw => by
    have hg : h[b]? = some (.map (l.map (entG kv vv)).toArray c) := (hb.repl (.obj 0 default)).get hs
    subst hw
    obtain ⟨lx, hlx⟩ := E.is k hkk
    have hc := fun em => E.law.check w em hlx
    have hst := E.law.stays w hlx
    have key : ∃ c', (execOp ρ ⟨d, .mapUpdate t x y z, ty, pos, af, g⟩).run P w = .ok .skip { w with heap := w.heap.setIfInBounds b (mapG kv vv (putG l c k v) c') } := by
      rcases E.find (vv := vv) hmo hkk w with ⟨h1, h2, h3⟩ | ⟨j, q, h1, h2, h3, h4, h5⟩
      · refine ⟨c + 1, ?_⟩
        have e : mapG kv vv (putG l c k v) (c + 1) = .map ((l.map (entG kv vv)).toArray.push { key := kv k, val := vv v, born := c }) (c + 1) := by
          rw [h3]; simp [mapG, entG]
        rw [e]
        simp [execOp, hρ _ _ hx, hρ _ _ hy, hρ _ _ hz, Instr.mapUpdate, run_underlying ht, MapKept.run_getObj_map hg, MapKept.run_setObj_map _ hg, hc, h1, Result.andThen]
      · refine ⟨c, ?_⟩
        have hj : (l.map (entG kv vv)).toArray[j]? = some (entG kv vv q) := by simp [h2]
        have e : mapG kv vv (putG l c k v) c = .map ((l.map (entG kv vv)).toArray.modify j fun e => { e with key := kv k, val := vv v }) c := by
          rw [h5]
          refine congrArg (fun z => Obj.map z c) ?_
          apply Array.ext'
          rw [Array.toList_modify]
          apply List.ext_getElem?
          intro i
          by_cases hij : j = i
          · subst hij
            have hlt : j < l.length := (List.getElem?_eq_some_iff.1 h2).1
            have hq := (List.getElem?_eq_some_iff.1 h2).2
            simp [List.getElem?_set, hlt, List.getElem?_modify, entG, hq]
          · simp [List.getElem?_set, hij, List.getElem?_modify]
        rw [e]
        have hq : (entG kv vv q).key = kv k := by rw [← h3]; rfl
        simp [execOp, hρ _ _ hx, hρ _ _ hy, hρ _ _ hz, Instr.mapUpdate, run_underlying ht, MapKept.run_getObj_map hg, MapKept.run_setObj_map _ hg, hc, h1, Result.andThen, h2, hq, hst]
    obtain ⟨c', key⟩ := key
    obtain ⟨r, p1, p2⟩ := (hb.repl (.obj b (mapG kv vv (putG l c k v) c'))).perm
    have hsat := hs.perm p1
    have hlt : b < w.heap.size := by
      rcases Nat.lt_or_ge b w.heap.size with h | h
      · exact h
      · rw [Array.getElem?_eq_none h] at hg; cases hg
    refine ⟨undef, _, .inr ⟨key, rfl⟩, ⟨rfl, rfl, rfl, rfl⟩, ro, _, Le.refl _, (hsat.put (c' := .obj b (mapG kv vv (putG l c k v) c')) (fun i _ hi => ?_) ?_ (fun k hk => .inl hk) (by simp [Chunk.fp])).perm p2.symm, hk c'⟩
    · have : b ≠ i := by simpa [Chunk.fp, eq_comm] using hi
      simp [Array.getElem?_setIfInBounds, this]
    · simp [Chunk.holds, hm, hlt]⟩⟩
/-- A map is made. -/
theorem OpOk.makeMapG {t : TypeId} (hk : ∀ b, K (.map (some b)) ro (.obj b (mapG kv vv ([] : List (κ × ν × Nat)) 0) :: own)) : OpOk P (.makeMap t none) ty env ro own K := OpOk.makeMap hk
end
theorem KeyEnc.text {P : Program} {kt : TypeId} (hk : P.underlying kt = some .string) : KeyEnc P kt str (fun l => l.length ≤ maxLen) where
  law := WideMaps.string_law hk
  is l h := ⟨_, WideMaps.keyOf_string_mk hk (by simpa [ByteArray.size] using h)⟩
  inj a b h := by
    have h2 : ByteArray.mk a.toArray = ByteArray.mk b.toArray := by injection h
    have h3 : a.toArray = b.toArray := by injection h2
    exact congrArg Array.toList h3
end Go.E
