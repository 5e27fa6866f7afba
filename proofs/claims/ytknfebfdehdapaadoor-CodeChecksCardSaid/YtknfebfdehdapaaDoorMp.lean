/- Maps from numbers to numbers. No program in sight. -/
import Derived.Test.YtknfebfdehdapaaDoorV15
import Derived.MapKept
namespace Go.E
open Go
set_option linter.unusedVariables false
set_option linter.unusedSimpArgs false
/-- An entry: its key, its element, when it came. -/
abbrev MI := List (Int × Int × Nat)
def entI (p : Int × Int × Nat) : MapEntry := { key := .int .i64 p.1, val := .int .i64 p.2.1, born := p.2.2 }
def mapO (l : MI) (c : Nat) : Obj := .map (l.map entI).toArray c
def getI : MI → Int → Int
  | [], _ => 0
  | p :: r, k => if k = p.1 then p.2.1 else getI r k
def putI : MI → Nat → Int → Int → MI
  | [], c, k, v => [(k, v, c)]
  | p :: r, c, k, v => if k = p.1 then (k, v, p.2.2) :: r else p :: putI r c k v
def hasI : MI → Int → Bool
  | [], _ => false
  | p :: r, k => if k = p.1 then true else hasI r k
theorem getI_putI (l : MI) (c : Nat) (k v j : Int) : getI (putI l c k v) j = if j = k then v else getI l j := by
  induction l with
  | nil => simp only [putI, getI]
  | cons p r ih =>
    unfold putI
    split
    · rename_i h
      simp only [getI]
      by_cases hj : j = k
      · simp [hj]
      · rw [if_neg hj, if_neg hj, if_neg (by omega)]
    · rename_i h
      simp only [getI]
      rw [ih]
      by_cases hj : j = p.1
      · rw [if_pos hj, if_pos hj, if_neg (by omega)]
      · rw [if_neg hj, if_neg hj]
theorem findI_cons (k : Int) (p : Int × Int × Nat) (es : List MapEntry) (i : Nat) : Instr.findNow (.int .i64) (.int .i64 k) (entI p :: es) i = if k = p.1 then some (some (i, .int .i64 p.2.1)) else Instr.findNow (.int .i64) (.int .i64 k) es (i + 1) := by
  have h : Instr.findNow (.int .i64) (.int .i64 k) (entI p :: es) i = match (some (k == p.1) : Option Bool) with
    | some true => some (some (i, .int .i64 p.2.1))
    | some false => Instr.findNow (.int .i64) (.int .i64 k) es (i + 1)
    | none => none := rfl
  rw [h]
  by_cases e : k = p.1
  · rw [if_pos e, show (k == p.1) = true from beq_iff_eq.2 e]
  · rw [if_neg e, show (k == p.1) = false from beq_false_of_ne e]
theorem findI (k : Int) : ∀ (l : MI) (i : Nat), (Instr.findNow (.int .i64) (.int .i64 k) (l.map entI) i = some none ∧ getI l k = 0 ∧ ∀ c v, putI l c k v = l ++ [(k, v, c)]) ∨
    ∃ (j : Nat) (p : Int × Int × Nat), Instr.findNow (.int .i64) (.int .i64 k) (l.map entI) i = some (some (i + j, .int .i64 (getI l k))) ∧ l[j]? = some p ∧ p.1 = k ∧ ∀ c v, putI l c k v = l.set j (k, v, p.2.2)
  | [], i => .inl ⟨rfl, rfl, fun _ _ => rfl⟩
  | p :: r, i => by
    by_cases h : k = p.1
    · refine .inr ⟨0, p, ?_, rfl, h.symm, fun c v => ?_⟩
      · rw [List.map_cons, findI_cons, if_pos h, getI, if_pos h]; rfl
      · simp [putI, h]
    · rcases findI k r (i + 1) with ⟨h1, h2, h3⟩ | ⟨j, q, h1, h2, h3, h4⟩
      · refine .inl ⟨?_, ?_, fun c v => ?_⟩
        · rw [List.map_cons, findI_cons, if_neg h]; exact h1
        · rw [getI, if_neg h, h2]
        · rw [putI, if_neg h, h3]; rfl
      · refine .inr ⟨j + 1, q, ?_, by simpa using h2, h3, fun c v => ?_⟩
        · rw [List.map_cons, findI_cons, if_neg h, h1, getI, if_neg h, Nat.add_assoc, Nat.add_comm 1 j]
        · rw [putI, if_neg h, h4]; rfl
class HasObj (l : Chs) (b : Nat) (o : outParam Obj) (f : outParam (Chunk → Chs)) : Prop where
  repl : ∀ x, Repl l (.obj b o) x (f x)
instance HasObj.miss (y : Chunk) (l : Chs) (b : Nat) (o : Obj) (f : Chunk → Chs) [h : HasObj l b o f] : HasObj (y :: l) b o (fun x => y :: f x) := ⟨fun x => .miss y (h.repl x)⟩
instance HasObj.hit (b : Nat) (o : Obj) (r : Chs) : HasObj (.obj b o :: r) b o (fun x => x :: r) := ⟨fun x => .hit _ x r⟩
section
variable {P : Program} {T : TT} [hT : TTab P T] {ty : TypeId} {env : Env} {ro : Ro} {own : Chs} {K : Value → Ro → Chs → Prop}
theorem OpOk.makeMap {t : TypeId} (hk : ∀ b, K (.map (some b)) ro (.obj b (mapO [] 0) :: own)) : OpOk P (.makeMap t none) ty env ro own K :=
  ⟨fun h hs d pos af g => ⟨fun ρ w hρ hw => by
    subst hw
    refine ⟨.map (some w.heap.size), { w with heap := w.heap.push (.map #[] 0) }, .inl ?_, ⟨rfl, rfl, rfl, rfl⟩, ?_⟩
    · rfl
    · obtain ⟨n1, n2, n3⟩ := newly_push w (.map #[] 0)
      exact ⟨ro, _, Le.refl _, hs.new (c' := .obj w.heap.size (mapO [] 0)) n3 (by simp [Chunk.holds, hm, mapO, n2]) (by simp [Chunk.fp]) (by simp [Chunk.fp]), hk _⟩⟩⟩
theorem OpOk.lookupI {t kt et : TypeId} {x y : Operand} {b c : Nat} {k : Int} {l : MI} {f : Chunk → Chs} (hx : ev env x = some (.map (some b))) (hy : ev env y = some (.int .i64 k)) (ht : P.underlying t = some (.map kt et)) (hk0 : P.underlying kt = some (.int .i64)) (hz : (P.info? et).map (fun i => i.zero) = some (some (.int .i64 0)))
    [hb : HasObj own b (mapO l c) f] (hk : K (.int .i64 (getI l k)) ro own) : OpOk P (.lookup t x y false) ty env ro own K :=
  OpOk.pu (fun h hs d pos af g => .mk fun ρ w hρ hw => by
    have hg : h[b]? = some (.map (l.map entI).toArray c) := (hb.repl (.obj 0 default)).get hs
    subst hw
    obtain ⟨i, hi, hi2⟩ := Option.map_eq_some_iff.1 hz
    have hik : MapKept.IsKey (.int .i64) (.int .i64 k) := rfl
    rcases findI k l 0 with ⟨h1, h2, h3⟩ | ⟨j, q, h1, h2, h3, h4⟩
    · rw [h2]
      simp [execOp, hρ _ _ hx, hρ _ _ hy, Instr.lookup, run_underlying ht, MapKept.run_getObj_map hg, MapKept.run_checkKey hk0 hik, MapKept.run_findKey hk0 h1, zeroValue, typeInfo, hi, hi2, Result.andThen]
    · simp [execOp, hρ _ _ hx, hρ _ _ hy, Instr.lookup, run_underlying ht, MapKept.run_getObj_map hg, MapKept.run_checkKey hk0 hik, MapKept.run_findKey hk0 h1, Result.andThen]) hk
theorem OpOk.mapUpdateI {t kt et : TypeId} {x y z : Operand} {b c : Nat} {k v : Int} {l : MI} {f : Chunk → Chs} (hx : ev env x = some (.map (some b))) (hy : ev env y = some (.int .i64 k)) (hz : ev env z = some (.int .i64 v)) (ht : P.underlying t = some (.map kt et)) (hk0 : P.underlying kt = some (.int .i64))
    [hb : HasObj own b (mapO l c) f] (hk : ∀ c', K undef ro (f (.obj b (mapO (putI l c k v) c')))) : OpOk P (.mapUpdate t x y z) ty env ro own K :=
  ⟨fun h hs d pos af g => ⟨fun ρ w hρ hw => by
    have hg : h[b]? = some (.map (l.map entI).toArray c) := (hb.repl (.obj 0 default)).get hs
    subst hw
    have hik : MapKept.IsKey (.int .i64) (.int .i64 k) := rfl
    have key : ∃ c', (execOp ρ ⟨d, .mapUpdate t x y z, ty, pos, af, g⟩).run P w = .ok .skip { w with heap := w.heap.setIfInBounds b (mapO (putI l c k v) c') } := by
      rcases findI k l 0 with ⟨h1, h2, h3⟩ | ⟨j, q, h1, h2, h3, h4⟩
      · refine ⟨c + 1, ?_⟩
        have e : mapO (putI l c k v) (c + 1) = .map ((l.map entI).toArray.push { key := .int .i64 k, val := .int .i64 v, born := c }) (c + 1) := by
          rw [h3]; simp [mapO, entI]
        rw [e]
        simp [execOp, hρ _ _ hx, hρ _ _ hy, hρ _ _ hz, Instr.mapUpdate, run_underlying ht, MapKept.run_getObj_map hg, MapKept.run_setObj_map _ hg, MapKept.run_checkKey hk0 hik, MapKept.run_findKey hk0 h1, Result.andThen]
      · refine ⟨c, ?_⟩
        have hj : (l.map entI).toArray[j]? = some (entI q) := by simp [h2]
        have e : mapO (putI l c k v) c = .map ((l.map entI).toArray.modify j fun e => { e with key := .int .i64 k, val := .int .i64 v }) c := by
          rw [h4]
          refine congrArg (fun z => Obj.map z c) ?_
          apply Array.ext'
          rw [Array.toList_modify]
          apply List.ext_getElem?
          intro i
          by_cases hij : j = i
          · subst hij
            have hlt : j < l.length := (List.getElem?_eq_some_iff.1 h2).1
            have hq := (List.getElem?_eq_some_iff.1 h2).2
            simp [List.getElem?_set, hlt, List.getElem?_modify, entI, hq]
          · simp [List.getElem?_set, hij, List.getElem?_modify]
        rw [e]
        have hj2 : l[j]? = some q := h2
        have hq : (entI q).key = .int .i64 k := by rw [← h3]; rfl
        simp [execOp, hρ _ _ hx, hρ _ _ hy, hρ _ _ hz, Instr.mapUpdate, run_underlying ht, MapKept.run_getObj_map hg, MapKept.run_setObj_map _ hg, MapKept.run_checkKey hk0 hik, MapKept.run_findKey hk0 h1, Result.andThen, hj2, hq, MapKept.run_keyThatStays hik]
    obtain ⟨c', key⟩ := key
    obtain ⟨r, p1, p2⟩ := (hb.repl (.obj b (mapO (putI l c k v) c'))).perm
    have hsat := hs.perm p1
    have hlt : b < w.heap.size := by
      rcases Nat.lt_or_ge b w.heap.size with h | h
      · exact h
      · rw [Array.getElem?_eq_none h] at hg; cases hg
    refine ⟨undef, _, .inr ⟨key, rfl⟩, ⟨rfl, rfl, rfl, rfl⟩, ro, _, Le.refl _, (hsat.put (c' := .obj b (mapO (putI l c k v) c')) (fun i _ hi => ?_) ?_ (fun k hk => .inl hk) (by simp [Chunk.fp])).perm p2.symm, hk c'⟩
    · have : b ≠ i := by simpa [Chunk.fp, eq_comm] using hi
      simp [Array.getElem?_setIfInBounds, this]
    · simp [Chunk.holds, hm, hlt]⟩⟩
end
end Go.E
