/- Texts of a walk, one behind the other. -/
import Derived.Lib.MakeNoZero
import Derived.Laws.CopyOwn
import Derived.RangeFuncRecord
import Derived.Below
import Derived.WideKeyArr
import Derived.StringKeys
import Derived.DeepKeys5
import Derived.ArgAppend
import Derived.Laws.IdiomStrings
import Derived.Test.YtefipginoakecaaGreatDoorProg
import Derived.KernelRfl
import Derived.Lib.LaidTab
import Derived.Stop.LaidErr
import Derived.Test.YtefipginoakecaaGreatDoorMg2
section
/- Merged of: V16 V17 V18 V19 V20 V25 V26 V27 V28. Slices cut, read whatever they are. No program in sight. -/
/-! Slices cut, read whatever they are. No program in sight. -/
namespace Go.E
open Go
set_option linter.unusedVariables false
theorem LdN.atR {ro ro' : Ro} {own own' : Chs} {a : Option Addr} {n c s k z o : Nat} {cs vs : List Value} (hr : Rds ro own a n c s cs) (hd : (cs.drop k).take z = vs) (ho : o = ao a + k) [hl : Leq ro ro'] [hp : Suf own' own] : LdN ro' own' (ab a) o vs := by
  subst ho; subst hd; exact LdN.rds hr
end Go.E
/-! Regions that draw their order, where operations that change something may come up in any order: each has its own place in memory; what it does is told by itself. No program in sight. -/
namespace Go.E
open Go
set_option linter.unusedVariables false
section
variable {P : Program} {T : TT} {Q : Exit → Act → World → Prop} {n : Nat} {σ : World}
end
end Go.E
/-! .. and that it is right. No program in sight. -/
namespace Go.E
open Go
set_option linter.unusedVariables false
section
variable {P : Program} {T : TT} {Q : Exit → Act → World → Prop} {n : Fr} {σ : World}
end
end Go.E
/-! Room that nobody has cleared (a Builder grows); copying nothing. No program in sight. -/
namespace Go.E
open Go
set_option linter.unusedVariables false
set_option linter.unusedSimpArgs false
section
variable {P : Program} {f : FuncId} {fn : Func} {ro : Ro} {own : Chs} {K : Value → Ro → Chs → Prop}
end
section
variable {P : Program} {T : TT} [hT : TTab P T] {ty : TypeId} {env : Env} {ro : Ro} {own : Chs} {K : Value → Ro → Chs → Prop}
end
end Go.E
/-! A contract of the shelf as one of this engine: it leaves what was there as it was. No program in sight. -/
namespace Go.E
open Go
set_option linter.unusedVariables false
section
variable {P : Program} {f : FuncId} {ro : Ro} {own : Chs} {K : Value → Ro → Chs → Prop}
theorem CallOk.ofBelow {args : Array Value} {v : Value} (enter : ∀ args w, (callFunc f args).run P w = .ok (.enter f args) w) (h : ∀ w, Calls P f args w fun e w' => e = .returned v ∧ Go.RowKit.Below w.heap.size w w') (hk : K v ro own) : CallOk P f args ro own K :=
  CallOk.body enter fun h0 hs w hw => (h w).mono fun e w' ⟨he, hb⟩ => ⟨v, he, ⟨rfl, hb.os, hb.tape, hb.output⟩, ro, own, Le.refl _, hs.keep (fun b hb' => by subst hw; exact hb.block b hb'), hk⟩
end
end Go.E
/-! Slices of structs that are made; what lies in them is left open. No program in sight. -/
namespace Go.E
open Go
set_option linter.unusedVariables false
section
variable {P : Program} {T : TT} [hT : TTab P T] {ty : TypeId} {env : Env} {ro : Ro} {own : Chs} {K : Value → Ro → Chs → Prop}
end
end Go.E
/-! A slice of one's own is told shorter. No program in sight. -/
namespace Go.E
open Go
set_option linter.unusedVariables false
section
variable {P : Program} {T : TT} {ty : TypeId} {env : Env} {ro : Ro} {own : Chs} {K : Value → Ro → Chs → Prop}
end
end Go.E
/-! A struct within a struct is stored. No program in sight. -/
namespace Go.E
open Go
set_option linter.unusedVariables false
section
variable {P : Program} {T : TT} [hT : TTab P T] {ty : TypeId} {env : Env} {ro : Ro} {own : Chs} {K : Value → Ro → Chs → Prop}
theorem OpOk.storePart {t : TypeId} {x y : Operand} {b o : Nat} {vs : List Value} {t0 : TypeId} {cs cs' : List Value} {f : Chunk → Chs} {z : Nat} (hx : ev env x = some (.pointer (some ⟨b, o, none⟩))) (hy : ev env y = some (.agg vs.toArray)) (ht : rowT T t = some z) (hz : vs.length = z) (h1 : vs.all (fun u => u.oneCell') = true)
    [hb : HasBlk own b t0 cs f] (hc : o + z ≤ cs.length) (he : Nf (splice cs o vs) cs') (hk : K undef ro (f (.blk b t0 cs'))) : OpOk P (.store t x y) ty env ro own K :=
  ⟨fun h hsat d pos af g => by
    have he := he.eq
    subst he
    obtain ⟨r, p1, p2⟩ := (hb.repl (.blk b t0 (splice cs o vs))).perm
    have hsat := hsat.perm p1
    refine (Eff.storeN0 hx hy ((rsz ht).trans (by simp [Value.cells, hz])) (by simpa [Value.cells] using List.all_eq_true.1 h1) hsat.cons.1 (by simp [Value.cells]; omega)).mono ?_
    rintro _ h' ⟨rfl, g1, g2, g3⟩
    have g2' : Row h' b t0 (splice cs o vs) := by simpa [Value.cells] using g2
    exact ⟨ro, _, Le.refl _, (hsat.put (c' := .blk b t0 (splice cs o vs)) (fun k _ hk => g3 k (by simpa [Chunk.fp] using hk)) g2' (fun k hk => .inl hk) (by simp [Chunk.fp])).perm p2.symm, hk⟩⟩
end
end Go.E
/-! An array behind a pointer is cut. No program in sight. -/
namespace Go.E
open Go
set_option linter.unusedVariables false
section
variable {P : Program} {T : TT} [hT : TTab P T] {ty : TypeId} {env : Env} {ro : Ro} {own : Chs} {K : Value → Ro → Chs → Prop}
end
end Go.E
end
section
/- Maps whose keys are texts, arrays or structs. No program in sight. -/
namespace Go.E
open Go
set_option linter.unusedVariables false
set_option linter.unusedSimpArgs false
set_option linter.unusedSectionVars false
/-- How keys of a sort are told: so that a map finds them. -/
structure KeyEnc (P : Program) (kt : TypeId) {κ : Type} (kv : κ → Value) (ok : κ → Prop) : Prop where
  check : ∀ k, ok k → ∀ (w : World) (em : Bool), (Instr.checkKey em 10000 kt (kv k)).run P w = .ok () w
  search : ∀ (w : World) (k : κ), ok k → ∀ es : List MapEntry, (∀ e ∈ es, ∃ j, ok j ∧ e.key = kv j) → ((Instr.findKey kt (kv k) es).run P w = .ok none w ∧ ∀ e ∈ es, e.key ≠ kv k) ∨ ∃ j e, (Instr.findKey kt (kv k) es).run P w = .ok (some (j, e.val)) w ∧ es[j]? = some e ∧ e.key = kv k
  stays : ∀ k, ok k → ∀ w : World, (Instr.keyThatStays (kv k) (kv k)).run P w = .ok (kv k) w
  inj : ∀ a b, kv a = kv b → a = b
theorem KeyEnc.ofLaw {P : Program} {kt : TypeId} {κ : Type} {kv : κ → Value} {ok : κ → Prop} (law : WideMaps.KeyLaw P kt) (is : ∀ k, ok k → ∃ l, keyOf P kt (kv k) = some l) (inj : ∀ a b, kv a = kv b → a = b) : KeyEnc P kt kv ok where
  check k hk w em := by obtain ⟨l, hl⟩ := is k hk; exact law.check w em hl
  search w k hk es he := by
    obtain ⟨l, hl⟩ := is k hk
    exact law.find w hl es fun e h => by
      obtain ⟨j, hj, e2⟩ := he e h
      rw [e2]; exact is j hj
  stays k hk w := by obtain ⟨l, hl⟩ := is k hk; exact law.stays w hl
  inj := inj
section
variable {κ ν : Type}
def entG (kv : κ → Value) (vv : ν → Value) (p : κ × ν × Nat) : MapEntry := { key := kv p.1, val := vv p.2.1, born := p.2.2 }
def mapG (kv : κ → Value) (vv : ν → Value) (l : List (κ × ν × Nat)) (c : Nat) : Obj := .map (l.map (entG kv vv)).toArray c
structure MapOk (ok : κ → Prop) (l : List (κ × ν × Nat)) : Prop where
  nodup : (l.map (·.1)).Nodup
  all : ∀ p ∈ l, ok p.1
variable [DecidableEq κ]
def getG : List (κ × ν × Nat) → κ → Option ν
  | [], _ => none
  | p :: r, k => if k = p.1 then some p.2.1 else getG r k
def putG : List (κ × ν × Nat) → Nat → κ → ν → List (κ × ν × Nat)
  | [], c, k, v => [(k, v, c)]
  | p :: r, c, k, v => if k = p.1 then (k, v, p.2.2) :: r else p :: putG r c k v
theorem get_none : ∀ {l : List (κ × ν × Nat)} {k : κ}, (∀ p ∈ l, p.1 ≠ k) → getG l k = none ∧ ∀ c v, putG l c k v = l ++ [(k, v, c)]
  | [], k, h => ⟨rfl, fun _ _ => rfl⟩
  | p :: r, k, h => by
    have hp : ¬ k = p.1 := fun e => h p (by simp) e.symm
    obtain ⟨h1, h2⟩ := get_none (l := r) (k := k) (fun q hq => h q (by simp [hq]))
    exact ⟨by rw [getG, if_neg hp]; exact h1, fun c v => by rw [putG, if_neg hp, h2]; rfl⟩
theorem get_at : ∀ {l : List (κ × ν × Nat)} {j : Nat} {p : κ × ν × Nat}, (l.map (·.1)).Nodup → l[j]? = some p → getG l p.1 = some p.2.1 ∧ ∀ c v, putG l c p.1 v = l.set j (p.1, v, p.2.2)
  | [], j, p, hn, h => by simp at h
  | q :: r, 0, p, hn, h => by
    simp at h; subst h
    exact ⟨by rw [getG, if_pos rfl], fun c v => by rw [putG, if_pos rfl]; rfl⟩
  | q :: r, j + 1, p, hn, h => by
    have hn2 : q.1 ∉ r.map (·.1) ∧ (r.map (·.1)).Nodup := by simpa using hn
    have h : r[j]? = some p := by simpa using h
    have hne : ¬ p.1 = q.1 := fun e => hn2.1 (e ▸ List.mem_map_of_mem (List.mem_of_getElem? h))
    obtain ⟨h1, h2⟩ := get_at hn2.2 h
    exact ⟨by rw [getG, if_neg hne]; exact h1, fun c v => by rw [putG, if_neg hne, h2]; rfl⟩
theorem put_mem : ∀ {l : List (κ × ν × Nat)} {c : Nat} {k : κ} {v : ν} {p : κ × ν × Nat}, p ∈ putG l c k v → p.1 = k ∨ p ∈ l
  | [], c, k, v, p, h => by simp [putG] at h; exact .inl (by rw [h])
  | q :: r, c, k, v, p, h => by
    rw [putG] at h
    split at h
    · rcases List.mem_cons.1 h with rfl | h
      · exact .inl rfl
      · exact .inr (by simp [h])
    · rcases List.mem_cons.1 h with rfl | h
      · exact .inr (by simp)
      · rcases put_mem h with h | h
        · exact .inl h
        · exact .inr (by simp [h])
theorem MapOk.put {ok : κ → Prop} {l : List (κ × ν × Nat)} (h : MapOk ok l) {k : κ} (hk : ok k) (c : Nat) (v : ν) : MapOk ok (putG l c k v) := by
  refine ⟨?_, fun p hp => ?_⟩
  · obtain ⟨hn, ha⟩ := h
    clear ha
    induction l with
    | nil => simp [putG]
    | cons q r ih =>
      have hn2 : q.1 ∉ r.map (·.1) ∧ (r.map (·.1)).Nodup := by simpa using hn
      rw [putG]
      split
      · rename_i e; subst e; simpa using hn
      · rename_i e
        rw [List.map_cons, List.nodup_cons]
        refine ⟨fun hmo => ?_, ih hn2.2⟩
        obtain ⟨p, hp, hpe⟩ := List.mem_map.1 hmo
        rcases put_mem hp with h | h
        · exact e (h.symm.trans hpe)
        · exact hn2.1 (hpe ▸ List.mem_map_of_mem h)
  · rcases put_mem hp with e | hp
    · rw [e]; exact hk
    · exact h.all p hp
theorem MapOk.nil {ok : κ → Prop} : MapOk ok ([] : List (κ × ν × Nat)) := ⟨by simp, by simp⟩
theorem getG_putG {l : List (κ × ν × Nat)} {c : Nat} {k j : κ} {v : ν} : getG (putG l c k v) j = if j = k then some v else getG l j := by
  induction l with
  | nil => simp only [putG, getG]
  | cons p r ih =>
    unfold putG
    split
    · rename_i h
      simp only [getG]
      by_cases hj : j = k
      · simp [hj]
      · rw [if_neg hj, if_neg hj, if_neg (fun e => hj (e.trans h.symm))]
    · rename_i h
      simp only [getG]
      rw [ih]
      by_cases hj : j = p.1
      · rw [if_pos hj, if_pos hj, if_neg (fun e => h (e.symm.trans hj))]
      · rw [if_neg hj, if_neg hj]
variable {P : Program} {T : TT} [hT : TTab P T] {ty : TypeId} {env : Env} {ro : Ro} {own : Chs} {K : Value → Ro → Chs → Prop} {kt : TypeId} {kv : κ → Value} {vv : ν → Value} {ok : κ → Prop}
theorem KeyEnc.find (E : KeyEnc P kt kv ok) {l : List (κ × ν × Nat)} (hmo : MapOk ok l) {k : κ} (hk : ok k) (w : World) :
    ((Instr.findKey kt (kv k) (l.map (entG kv vv))).run P w = .ok none w ∧ getG l k = none ∧ ∀ c v, putG l c k v = l ++ [(k, v, c)]) ∨
    ∃ (j : Nat) (p : κ × ν × Nat), (Instr.findKey kt (kv k) (l.map (entG kv vv))).run P w = .ok (some (j, vv p.2.1)) w ∧ l[j]? = some p ∧ p.1 = k ∧ getG l k = some p.2.1 ∧ ∀ c v, putG l c k v = l.set j (k, v, p.2.2) := by
  rcases E.search w k hk (l.map (entG kv vv)) (fun e he => by
    obtain ⟨p, hp, rfl⟩ := List.mem_map.1 he
    exact ⟨p.1, hmo.all p hp, rfl⟩) with ⟨h1, h2⟩ | ⟨j, e, h1, h2, h3⟩
  · obtain ⟨g1, g2⟩ := get_none (l := l) (k := k) (fun p hp e => h2 (entG kv vv p) (List.mem_map_of_mem hp) (congrArg kv e))
    exact .inl ⟨h1, g1, g2⟩
  · rw [List.getElem?_map] at h2
    obtain ⟨p, hp, rfl⟩ := Option.map_eq_some_iff.1 h2
    obtain rfl := E.inj _ _ h3
    obtain ⟨g1, g2⟩ := get_at hmo.nodup hp
    exact .inr ⟨j, p, h1, hp, rfl, g1, g2⟩
theorem OpOk.lookupG {t et : TypeId} {x y : Operand} {b c : Nat} {k : κ} {l : List (κ × ν × Nat)} {z : Value} {f : Chunk → Chs} (hx : ev env x = some (.map (some b))) (hy : ev env y = some (kv k)) (ht : P.underlying t = some (.map kt et))
    (E : KeyEnc P kt kv ok) (hmo : MapOk ok l) (hkk : ok k) (hz : (P.info? et).map (fun i => i.zero) = some (some z)) [hb : HasObj own b (mapG kv vv l c) f] (hk : K (((getG l k).map vv).getD z) ro own) : OpOk P (.lookup t x y false) ty env ro own K :=
  OpOk.pu (fun h hs d pos af g => .mk fun ρ w hρ hw => by
    have hg : h[b]? = some (.map (l.map (entG kv vv)).toArray c) := (hb.repl (.obj 0 default)).get hs
    subst hw
    obtain ⟨i, hi, hi2⟩ := Option.map_eq_some_iff.1 hz
    have hc := fun em => E.check k hkk w em
    rcases E.find (vv := vv) hmo hkk w with ⟨h1, h2, h3⟩ | ⟨j, q, h1, h2, h3, h4, h5⟩
    · rw [h2]
      simp [execOp, hρ _ _ hx, hρ _ _ hy, Instr.lookup, run_underlying ht, MapKept.run_getObj_map hg, hc, h1, zeroValue, typeInfo, hi, hi2, Result.andThen]
    · rw [h4]
      simp [execOp, hρ _ _ hx, hρ _ _ hy, Instr.lookup, run_underlying ht, MapKept.run_getObj_map hg, hc, h1, Result.andThen]) hk
theorem OpOk.mapUpdateG {t et : TypeId} {x y z : Operand} {b c : Nat} {k : κ} {v : ν} {l : List (κ × ν × Nat)} {f : Chunk → Chs} (hx : ev env x = some (.map (some b))) (hy : ev env y = some (kv k)) (hz : ev env z = some (vv v)) (ht : P.underlying t = some (.map kt et))
    (E : KeyEnc P kt kv ok) (hmo : MapOk ok l) (hkk : ok k) [hb : HasObj own b (mapG kv vv l c) f] (hk : ∀ c', K undef ro (f (.obj b (mapG kv vv (putG l c k v) c')))) : OpOk P (.mapUpdate t x y z) ty env ro own K :=
  ⟨fun h hs d pos af g => ⟨fun ρ w hρ hw => by
    have hg : h[b]? = some (.map (l.map (entG kv vv)).toArray c) := (hb.repl (.obj 0 default)).get hs
    subst hw
    have hc := fun em => E.check k hkk w em
    have hst := E.stays k hkk w
    have key : ∃ c', (execOp ρ ⟨d, .mapUpdate t x y z, ty, pos, af, g⟩).run P w = .ok .skip { w with heap := w.heap.setIfInBounds b (mapG kv vv (putG l c k v) c') } := by
      rcases E.find (vv := vv) hmo hkk w with ⟨h1, h2, h3⟩ | ⟨j, q, h1, h2, h3, h4, h5⟩
      · refine ⟨c + 1, ?_⟩
        have e : mapG kv vv (putG l c k v) (c + 1) = .map ((l.map (entG kv vv)).toArray.push { key := kv k, val := vv v, born := c }) (c + 1) := by
          rw [h3]; simp [mapG, entG]
        rw [e]
        simp [execOp, hρ _ _ hx, hρ _ _ hy, hρ _ _ hz, Instr.mapUpdate, run_underlying ht, MapKept.run_getObj_map hg, MapKept.run_setObj_map _ hg, hc, h1, Result.andThen]
      · refine ⟨c, ?_⟩
        have hj : (l.map (entG kv vv)).toArray[j]? = some (entG kv vv q) := by simp [h2]
        have e : mapG kv vv (putG l c k v) c = .map ((l.map (entG kv vv)).toArray.modify j fun e => { e with key := kv k, val := vv v }) c := by
          rw [h5]
          refine congrArg (fun z => Obj.map z c) ?_
          apply Array.ext'
          rw [Array.toList_modify]
          apply List.ext_getElem?
          intro i
          by_cases hij : j = i
          · subst hij
            have hlt : j < l.length := (List.getElem?_eq_some_iff.1 h2).1
            have hq := (List.getElem?_eq_some_iff.1 h2).2
            simp [List.getElem?_set, hlt, List.getElem?_modify, entG, hq]
          · simp [List.getElem?_set, hij, List.getElem?_modify]
        rw [e]
        have hq : (entG kv vv q).key = kv k := by rw [← h3]; rfl
        simp [execOp, hρ _ _ hx, hρ _ _ hy, hρ _ _ hz, Instr.mapUpdate, run_underlying ht, MapKept.run_getObj_map hg, MapKept.run_setObj_map _ hg, hc, h1, Result.andThen, h2, hq, hst]
    obtain ⟨c', key⟩ := key
    obtain ⟨r, p1, p2⟩ := (hb.repl (.obj b (mapG kv vv (putG l c k v) c'))).perm
    have hsat := hs.perm p1
    have hlt : b < w.heap.size := by
      rcases Nat.lt_or_ge b w.heap.size with h | h
      · exact h
      · rw [Array.getElem?_eq_none h] at hg; cases hg
    refine ⟨undef, _, .inr ⟨key, rfl⟩, ⟨rfl, rfl, rfl, rfl⟩, ro, _, Le.refl _, (hsat.put (c' := .obj b (mapG kv vv (putG l c k v) c')) (fun i _ hi => ?_) ?_ (fun k hk => .inl hk) (by simp [Chunk.fp])).perm p2.symm, hk c'⟩
    · have : b ≠ i := by simpa [Chunk.fp, eq_comm] using hi
      simp [Array.getElem?_setIfInBounds, this]
    · simp [Chunk.holds, hm, hlt]⟩⟩
/-- A map is made. -/
theorem OpOk.makeMapG {t : TypeId} (hk : ∀ b, K (.map (some b)) ro (.obj b (mapG kv vv ([] : List (κ × ν × Nat)) 0) :: own)) : OpOk P (.makeMap t none) ty env ro own K := OpOk.makeMap hk
end
theorem KeyEnc.text {P : Program} {kt : TypeId} (hk : P.underlying kt = some .string) : KeyEnc P kt str (fun l => l.length ≤ maxLen) :=
  KeyEnc.ofLaw (WideMaps.string_law hk) (fun l h => ⟨_, WideMaps.keyOf_string_mk hk (by simpa [ByteArray.size] using h)⟩) (fun a b h => by
    have h2 : ByteArray.mk a.toArray = ByteArray.mk b.toArray := by injection h
    have h3 : a.toArray = b.toArray := by injection h2
    exact congrArg Array.toList h3)
end Go.E
end
section
/- Appending to a slice that is full: a new one comes of it, the old one stays. No program in sight. -/
namespace Go.E
open Go
set_option linter.unusedVariables false
set_option linter.unusedSectionVars false
set_option linter.unusedSimpArgs false
section
variable {P : Program} {T : TT} [hT : TTab P T] {ty : TypeId} {env : Env} {ro : Ro} {own : Chs} {K : Value → Ro → Chs → Prop}
theorem Eff.appendFull {x y : Operand} {t e : TypeId} {i : TypeInfo} {z : Value} {size n m c2 : Nat} {b : Addr} {a2 : Option Addr} {xs news : List Value} {h : Heap} {d : Option Nat} {pos : String} {af : Array Edge} {g : Option (Nat × Bool)}
    (hx : ev env x = some (.slice (some b) n n)) (hy : ev env y = some (.slice a2 m c2)) (ht : P.underlying t = some (.slice e)) (hi : P.info? e = some i)
    (hz : i.zero = some z) (hsz : i.size = size) (hby : i.bytes ≤ 1048576) (hzs : z.cells.size = size) (hpos : 0 < size) (hr : Rd h (.slice (some b) n n) n xs) (hs : Rd h (.slice a2 m c2) m news) (hlx : xs.length = n * size) (hl : news.length = m * size)
    (hm : 0 < m) (hle : n + m ≤ 134217728) :
    Eff P ⟨d, .call { callee := .builtin .append, args := #[x, y], argTypes := #[t, t] }, ty, pos, af, g⟩ env h (fun v' h' => Appended 0 e size (.slice none 0 0) (0 + (n + m)) ([] ++ (xs ++ news)) h v' h') := .mk fun ρ w hρ hw => by
  subst hw
  have hbytes : (n + m) * i.bytes ≤ 140737488355328 := Nat.le_trans (Nat.mul_le_mul hle hby) (by decide)
  have h63 : n + m ≤ maxLen := by unfold maxLen; omega
  have holds : ∀ j u, xs[j]? = some u → w.cell? (b.add j) = some u := fun j u hu => by
    rcases hr with ⟨_, rfl, _⟩ | ⟨_, b', o, c, hv, _, _, _, hcs⟩
    · simp at hu
    · cases hv
      rw [Addr.add_mid, cell_eq]; exact hcs j u hu
  obtain ⟨a, ha⟩ : ∃ a, a2 = some a := by
    rcases hs with ⟨h0, _⟩ | ⟨_, b', o, c, hv, _⟩
    · omega
    · cases hv; exact ⟨_, rfl⟩
  subst ha
  have hnews : ∀ j u, news[j]? = some u → w.cell? (a.add j) = some u := fun j u hu => by
    rcases hs with ⟨_, rfl, _⟩ | ⟨_, b', o, c, hv, _, _, _, hcs⟩
    · simp at hu
    · cases hv
      rw [Addr.add_mid, cell_eq]; exact hcs j u hu
  obtain ⟨v', w', hrun, hown, hgr⟩ := run_append_arg_grows (P := P) w t ty e i z size i.bytes ht hi hz hsz rfl hzs hpos b n n xs hlx holds a m c2 news hl hnews (by omega) h63 hbytes
  have hrun' : (execOp ρ ⟨d, .call { callee := .builtin .append, args := #[x, y], argTypes := #[t, t] }, ty, pos, af, g⟩).run P w = .ok (.value v') w' := by
    simp only [execOp, resolve, invoke, builtin, Sem.run_bind, Sem.run_pure, Result.andThen_ok]
    simp [hρ _ _ hx, hρ _ _ hy, hrun]
  have ho : Own w'.heap w.heap.size e size v' (n + m) (xs ++ news) := hown
  refine ⟨v', w', .inl hrun', ⟨rfl, hgr.os, hgr.tape, hgr.output⟩, ?_⟩
  rw [Nat.zero_add, List.nil_append]
  refine ⟨ho.mono (Nat.zero_le _), hgr.size, fun k hk _ => hgr.block k hk (fun e => by cases e), fun hv => ?_, fun k hk => .inr (ho.block hk).1⟩
  rcases ho.2 with ⟨_, h0⟩ | ⟨g', cap, cur, rfl, _⟩
  · omega
  · cases hv
/-- A slice that is full, and lasts or is another's, is appended to: what comes of it is one's own. -/
theorem OpOk.appendFull {x y : Operand} {t t2 e : TypeId} {s : Nat} {a a2 : Option Addr} {n c m c2 : Nat} {cs ys : List Value} (hx : ev env x = some (.slice a n c)) (hy : ev env y = some (.slice a2 m c2)) (ht : elemOf T t = some (e, s)) (h2 : Nat.beq t2 t = true)
    (hnc : c = n) (hr0 : Rds ro own a n c s cs) (hr : Rds ro own a2 m c2 s ys) (h1 : ∀ u ∈ ys, u.oneCell' = true) (hm : 0 < m) (hle : n + m ≤ 134217728)
    (hk : ∀ a' c', n + m ≤ c' → c' ≤ maxLen → K (.slice a' (n + m) c') ro (.sl a' (n + m) c' e s (cs ++ ys) :: own)) : OpOk P (.call ⟨.builtin .append, #[x, y], #[t, t2]⟩) ty env ro own K := by
  subst hnc
  have := Nat.eq_of_beq_eq_true h2
  subst this
  have h00 := elemOf_spec ht
  clear ht
  obtain ⟨z1, z2, te, ht, he, rfl, hzs, hpos'⟩ := h00
  cases a with
  | none =>
    refine ⟨fun h hs d pos af g => ?_⟩
    have hrd := hr0.run h hs
    have hc0 : c = 0 ∧ cs = [] := by
      rcases hrd with ⟨h0, h1, _⟩ | ⟨_, b', o, c', hv, _⟩
      · exact ⟨h0, h1⟩
      · cases hv
    obtain ⟨rfl, rfl⟩ := hc0
    exact (appendCore (n := 0) (cs := []) hx hy ht he hzs hpos' (Own.nil h 0 e te.size) (hr.run h hs) hr.len h1 (by omega)).mono (by
      intro v' h' ha
      have hs0 := hs.nilc e te.size
      obtain ⟨a', c', rfl, hs'⟩ := ha.sat (n := 0) (c := 0) hs0
      simp only [Nat.zero_add, List.nil_append] at hs' hk ⊢
      exact ⟨ro, _, Le.refl _, hs', hk a' c' hs'.cons.1.2.1 hs'.cons.1.2.2.1⟩)
  | some b =>
    obtain ⟨du, j, z, hi⟩ := tiOf.all (hT.ok.get he)
    exact ⟨fun h hs d pos af g => (Eff.appendFull hx hy (hT.ok.slice ht) hi.info hi.zero hi.size.symm hi.bytes (by have := hi.cells; rw [← hzs, this]; simp) hpos' (hr0.run h hs) (hr.run h hs) hr0.len hr.len hm hle).mono (by
      intro v' h' ha
      have hs0 := hs.nilc e te.size
      obtain ⟨a', c', rfl, hs'⟩ := ha.sat (n := 0) (c := 0) hs0
      simp only [Nat.zero_add, List.nil_append] at hs' ⊢
      exact ⟨ro, _, Le.refl _, hs', hk a' c' hs'.cons.1.2.1 hs'.cons.1.2.2.1⟩)⟩
/-- The bytes of any text: a new row, which is marked, and lasts. -/
theorem OpOk.bytesOf {s t e : TypeId} {x : Operand} {l : List UInt8} (hx : ev env x = some (str l)) (hs : P.underlying s = some .string) (ht : P.underlying t = some (.slice e)) (he : P.underlying e = some (.int .u8)) (hl : l.length ≤ maxLen)
    (hk : ∀ ro' b c, Le ro ro' → Rs ro' (some ⟨b, 0, none⟩) l.length c 1 (l.map u8) → K (.slice (some ⟨b, 0, none⟩) l.length c) ro' own) : OpOk P (.convert s t x) ty env ro own K := by
  refine ⟨fun g hg d pos af gd => .mk fun ρ w hρ hw => ?_⟩
  subst hw
  obtain ⟨c, hc⟩ : ∃ c, c = grownCap w l.length 0 e := ⟨_, rfl⟩
  have hr := run_bytes_of_string (P := P) w s t e ⟨l.toArray⟩ hs ht he
  have hsz : (ByteArray.mk l.toArray).size = l.length := by simp [ByteArray.size]
  rw [hsz, ← hc] at hr
  have hcl : l.length ≤ c := by rw [hc]; exact grownCap_ge w l.length 0 e
  have hcm : c ≤ maxLen := by rw [hc]; exact grownCap_le_maxLen w l.length 0 e hl
  obtain ⟨R, hR⟩ : ∃ R, R = bytesRow ⟨l.toArray⟩ c := ⟨_, rfl⟩
  rw [← hR] at hr
  have hRl : R.toList = l.map u8 ++ List.replicate (c - l.length) (.int .u8 0) := by
    rw [hR]
    simp only [bytesRow, hsz, Array.toList_append, Array.toList_map, Array.toList_replicate]
    rfl
  obtain ⟨w', hw'⟩ : ∃ w', w' = w.drew.alloc (.cells R e (R.size, R.size + 1)) := ⟨_, rfl⟩
  rw [← hw'] at hr
  have hheap : w'.heap = w.heap.push (.cells R e (R.size, R.size + 1)) := by rw [hw']; rfl
  have hnew : w'.heap[w.heap.size]? = some (.cells R e (R.size, R.size + 1)) := by rw [hheap]; simp
  have hold : ∀ j, j < w.heap.size → w'.heap[j]? = w.heap[j]? := fun j hj => by
    rw [hheap, Array.getElem?_push]
    rw [if_neg (by omega)]
  have hput := hg.new (c' := .obj w.heap.size (.cells R e (R.size, R.size + 1))) (h' := w'.heap) hold hnew (by simp [Chunk.fp]) (by simp [Chunk.fp])
  obtain ⟨ro', hle, hh, hs'⟩ := hput.freeze
  refine ⟨_, w', .inl ?_, ⟨by rw [hw'] <;> rfl, by rw [hw'] <;> rfl, by rw [hw'] <;> rfl, by rw [hw'] <;> rfl⟩, ro', own, hle, hs', hk ro' w.heap.size c hle ⟨fun h own2 hsat => ?_, by simp, hcl, hcm⟩⟩
  · simp only [execOp, hρ _ _ hx, Sem.run_bind]
    show Result.andThen ((convert s t (.string ⟨l.toArray⟩)).run P w) _ = _
    rw [hr]
    simp
  · have hb2 := hsat.last _ _ hh
    rcases Nat.eq_zero_or_pos l.length with h0 | h0
    · have : l = [] := List.eq_nil_of_length_eq_zero h0
      subst this
      exact .inl ⟨rfl, rfl, _, _, rfl, hcm⟩
    · refine .inr ⟨h0, w.heap.size, 0, c, rfl, hcl, hcm, (Array.getElem?_eq_some_iff.1 hb2).1, fun j v hv => ?_⟩
      simp only [cellAt, hb2, Nat.zero_add]
      rw [← Array.getElem?_toList, hRl]
      have hj := (List.getElem?_eq_some_iff.1 hv).1
      rw [List.getElem?_append_left hj]
      exact hv
end
end Go.E
end
section
/- Maps read in a region that draws its order. No program in sight. -/
namespace Go.E
open Go
set_option linter.unusedVariables false
set_option linter.unusedSimpArgs false
set_option linter.unusedSectionVars false
section
variable {κ ν : Type} [DecidableEq κ]
variable {P : Program} {T : TT} [hT : TTab P T] {ty : TypeId} {env : Env} {ro : Ro} {own : Chs} {K : Value → Prop} {kt : TypeId} {kv : κ → Value} {vv : ν → Value} {ok : κ → Prop}
theorem QOk.lookupOkG {t et : TypeId} {x y : Operand} {b c : Nat} {k : κ} {l : List (κ × ν × Nat)} {z : Value} {f : Chunk → Chs} (hx : ev env x = some (.map (some b))) (hy : ev env y = some (kv k)) (ht : P.underlying t = some (.map kt et))
    (E : KeyEnc P kt kv ok) (hmo : MapOk ok l) (hkk : ok k) (hz : (P.info? et).map (fun i => i.zero) = some (some z)) [hb : HasObj own b (mapG kv vv l c) f] (hk : K (.tuple #[((getG l k).map vv).getD z, .bool (getG l k).isSome])) : QOk P (.lookup t x y true) ty env ro own K :=
  QOk.pu (fun h hs d pos af g => .mk fun ρ w hρ hw => by
    have hg : h[b]? = some (.map (l.map (entG kv vv)).toArray c) := (hb.repl (.obj 0 default)).get hs
    subst hw
    obtain ⟨i, hi, hi2⟩ := Option.map_eq_some_iff.1 hz
    have hc := fun em => E.check k hkk w em
    rcases E.find (vv := vv) hmo hkk w with ⟨h1, h2, h3⟩ | ⟨j, q, h1, h2, h3, h4, h5⟩
    · rw [h2]
      simp [execOp, hρ _ _ hx, hρ _ _ hy, Instr.lookup, run_underlying ht, MapKept.run_getObj_map hg, hc, h1, zeroValue, typeInfo, hi, hi2, Result.andThen]
    · rw [h4]
      simp [execOp, hρ _ _ hx, hρ _ _ hy, Instr.lookup, run_underlying ht, MapKept.run_getObj_map hg, hc, h1, Result.andThen]) hk
end
end Go.E
end
section
/- The table of types. Written by a program of mine (gent.py) out of the loaded program. -/
namespace Go.Proofs.YtefipginoakecaaGreatDoor
open Go Go.E
def T : TT := [
  (2, ⟨ .int .i64, 1, [.int .i64 0]⟩),
  (3, ⟨ .int .i64, 1, [.int .i64 0]⟩),
  (4, ⟨ .bool, 1, [.bool false]⟩),
  (5, ⟨ .int .u8, 1, [.int .u8 0]⟩),
  (9, ⟨ .str, 1, [str []]⟩),
  (12, ⟨ .int .u64, 1, [.int .u64 0]⟩),
  (13, ⟨ .struct [(9, 0, 1), (12, 1, 1)], 2, [str [], .int .u64 0]⟩),
  (15, ⟨ .ptr 243, 1, [.pointer none]⟩),
  (16, ⟨ .ptr 246, 1, [.pointer none]⟩),
  (19, ⟨ .struct [(17, 0, 1)], 1, [.pointer none]⟩),
  (21, ⟨ .int .i32, 1, [.int .i32 0]⟩),
  (22, ⟨ .slice 41, 1, [.slice none 0 0]⟩),
  (23, ⟨ .slice 46, 1, [.slice none 0 0]⟩),
  (24, ⟨ .struct [(22, 0, 1), (23, 1, 1)], 2, [.slice none 0 0, .slice none 0 0]⟩),
  (25, ⟨ .struct [(22, 0, 1), (23, 1, 1)], 2, [.slice none 0 0, .slice none 0 0]⟩),
  (28, ⟨ .int .i64, 1, [.int .i64 0]⟩),
  (29, ⟨ .struct [(28, 0, 1), (3, 1, 1)], 2, [.int .i64 0, .int .i64 0]⟩),
  (30, ⟨ .struct [(28, 0, 1), (3, 1, 1)], 2, [.int .i64 0, .int .i64 0]⟩),
  (33, ⟨ .int .u64, 1, [.int .u64 0]⟩),
  (34, ⟨ .struct [(9, 0, 1), (33, 1, 1), (33, 2, 1)], 3, [str [], .int .u64 0, .int .u64 0]⟩),
  (35, ⟨ .struct [(9, 0, 1), (33, 1, 1), (33, 2, 1)], 3, [str [], .int .u64 0, .int .u64 0]⟩),
  (36, ⟨ .slice 3, 1, [.slice none 0 0]⟩),
  (37, ⟨ .slice 4, 1, [.slice none 0 0]⟩),
  (38, ⟨ .slice 56, 1, [.slice none 0 0]⟩),
  (39, ⟨ .slice 113, 1, [.slice none 0 0]⟩),
  (40, ⟨ .struct [(3, 0, 1), (3, 1, 1), (4, 2, 1), (4, 3, 1), (4, 4, 1), (33, 5, 1), (33, 6, 1), (9, 7, 1), (35, 8, 3), (36, 11, 1), (37, 12, 1), (38, 13, 1), (9, 14, 1), (33, 15, 1), (39, 16, 1), (3, 17, 1)], 18, [.int .i64 0, .int .i64 0, .bool false, .bool false, .bool false, .int .u64 0, .int .u64 0, str [], str [], .int .u64 0, .int .u64 0, .slice none 0 0, .slice none 0 0, .slice none 0 0, str [], .int .u64 0, .slice none 0 0, .int .i64 0]⟩),
  (41, ⟨ .struct [(3, 0, 1), (3, 1, 1), (4, 2, 1), (4, 3, 1), (4, 4, 1), (33, 5, 1), (33, 6, 1), (9, 7, 1), (35, 8, 3), (36, 11, 1), (37, 12, 1), (38, 13, 1), (9, 14, 1), (33, 15, 1), (39, 16, 1), (3, 17, 1)], 18, [.int .i64 0, .int .i64 0, .bool false, .bool false, .bool false, .int .u64 0, .int .u64 0, str [], str [], .int .u64 0, .int .u64 0, .slice none 0 0, .slice none 0 0, .slice none 0 0, str [], .int .u64 0, .slice none 0 0, .int .i64 0]⟩),
  (43, ⟨ .slice 9, 1, [.slice none 0 0]⟩),
  (45, ⟨ .struct [(9, 0, 1), (3, 1, 1)], 2, [str [], .int .i64 0]⟩),
  (46, ⟨ .struct [(9, 0, 1), (3, 1, 1)], 2, [str [], .int .i64 0]⟩),
  (55, ⟨ .struct [(9, 0, 1), (3, 1, 1), (3, 2, 1), (9, 3, 1), (9, 4, 1)], 5, [str [], .int .i64 0, .int .i64 0, str [], str []]⟩),
  (56, ⟨ .struct [(9, 0, 1), (3, 1, 1), (3, 2, 1), (9, 3, 1), (9, 4, 1)], 5, [str [], .int .i64 0, .int .i64 0, str [], str []]⟩),
  (62, ⟨ .map 3 9, 1, [.map none]⟩),
  (71, ⟨ .slice 75, 1, [.slice none 0 0]⟩),
  (74, ⟨ .struct [(3, 0, 1), (3, 1, 1), (3, 2, 1)], 3, [.int .i64 0, .int .i64 0, .int .i64 0]⟩),
  (75, ⟨ .struct [(3, 0, 1), (3, 1, 1), (3, 2, 1)], 3, [.int .i64 0, .int .i64 0, .int .i64 0]⟩),
  (80, ⟨ .map 83 3, 1, [.map none]⟩),
  (83, ⟨ .arr 2 3, 2, [.int .i64 0, .int .i64 0]⟩),
  (84, ⟨ .slice 86, 1, [.slice none 0 0]⟩),
  (86, ⟨ .arr 3 3, 3, [.int .i64 0, .int .i64 0, .int .i64 0]⟩),
  (87, ⟨ .map 3 4, 1, [.map none]⟩),
  (90, ⟨ .ptr 93, 1, [.pointer none]⟩),
  (91, ⟨ .map 9 3, 1, [.map none]⟩),
  (92, ⟨ .struct [(25, 0, 2), (91, 2, 1)], 3, [.slice none 0 0, .slice none 0 0, .map none]⟩),
  (93, ⟨ .struct [(25, 0, 2), (91, 2, 1)], 3, [.slice none 0 0, .slice none 0 0, .map none]⟩),
  (98, ⟨ .map 9 4, 1, [.map none]⟩),
  (102, ⟨ .ptr 108, 1, [.pointer none]⟩),
  (103, ⟨ .ptr 106, 1, [.pointer none]⟩),
  (104, ⟨ .slice 5, 1, [.slice none 0 0]⟩),
  (105, ⟨ .struct [(103, 0, 1), (104, 1, 1)], 2, [.pointer none, .slice none 0 0]⟩),
  (106, ⟨ .struct [(103, 0, 1), (104, 1, 1)], 2, [.pointer none, .slice none 0 0]⟩),
  (107, ⟨ .struct [(106, 0, 2), (25, 2, 2)], 4, [.pointer none, .slice none 0 0, .slice none 0 0, .slice none 0 0]⟩),
  (108, ⟨ .struct [(106, 0, 2), (25, 2, 2)], 4, [.pointer none, .slice none 0 0, .slice none 0 0, .slice none 0 0]⟩),
  (112, ⟨ .struct [(33, 0, 1), (3, 1, 1)], 2, [.int .u64 0, .int .i64 0]⟩),
  (113, ⟨ .struct [(33, 0, 1), (3, 1, 1)], 2, [.int .u64 0, .int .i64 0]⟩),
  (118, ⟨ .slice 127, 1, [.slice none 0 0]⟩),
  (121, ⟨ .ptr 125, 1, [.pointer none]⟩),
  (122, ⟨ .struct [(25, 0, 2)], 2, [.slice none 0 0, .slice none 0 0]⟩),
  (123, ⟨ .struct [(25, 0, 2)], 2, [.slice none 0 0, .slice none 0 0]⟩),
  (124, ⟨ .struct [(118, 0, 1), (3, 1, 1), (123, 2, 2), (30, 4, 2)], 6, [.slice none 0 0, .int .i64 0, .slice none 0 0, .slice none 0 0, .int .i64 0, .int .i64 0]⟩),
  (125, ⟨ .struct [(118, 0, 1), (3, 1, 1), (123, 2, 2), (30, 4, 2)], 6, [.slice none 0 0, .int .i64 0, .slice none 0 0, .slice none 0 0, .int .i64 0, .int .i64 0]⟩),
  (126, ⟨ .struct [(3, 0, 1), (3, 1, 1), (9, 2, 1)], 3, [.int .i64 0, .int .i64 0, str []]⟩),
  (127, ⟨ .struct [(3, 0, 1), (3, 1, 1), (9, 2, 1)], 3, [.int .i64 0, .int .i64 0, str []]⟩),
  (135, ⟨ .ptr 146, 1, [.pointer none]⟩),
  (138, ⟨ .map 9 140, 1, [.map none]⟩),
  (139, ⟨ .struct [(3, 0, 1), (3, 1, 1)], 2, [.int .i64 0, .int .i64 0]⟩),
  (140, ⟨ .struct [(3, 0, 1), (3, 1, 1)], 2, [.int .i64 0, .int .i64 0]⟩),
  (144, ⟨ .map 3 75, 1, [.map none]⟩),
  (145, ⟨ .struct [(25, 0, 2), (144, 2, 1)], 3, [.slice none 0 0, .slice none 0 0, .map none]⟩),
  (146, ⟨ .struct [(25, 0, 2), (144, 2, 1)], 3, [.slice none 0 0, .slice none 0 0, .map none]⟩),
  (150, ⟨ .ptr 5, 1, [.pointer none]⟩),
  (155, ⟨ .arr 20 5, 20, [.int .u8 0, .int .u8 0, .int .u8 0, .int .u8 0, .int .u8 0, .int .u8 0, .int .u8 0, .int .u8 0, .int .u8 0, .int .u8 0, .int .u8 0, .int .u8 0, .int .u8 0, .int .u8 0, .int .u8 0, .int .u8 0, .int .u8 0, .int .u8 0, .int .u8 0, .int .u8 0]⟩),
  (156, ⟨ .ptr 158, 1, [.pointer none]⟩),
  (157, ⟨ .struct [(9, 0, 1), (3, 1, 1), (118, 2, 1)], 3, [str [], .int .i64 0, .slice none 0 0]⟩),
  (158, ⟨ .struct [(9, 0, 1), (3, 1, 1), (118, 2, 1)], 3, [str [], .int .i64 0, .slice none 0 0]⟩),
  (165, ⟨ .ptr 123, 1, [.pointer none]⟩),
  (170, ⟨ .map 4 9, 1, [.map none]⟩),
  (171, ⟨ .int .u64, 1, [.int .u64 0]⟩),
  (180, ⟨ .slice 183, 1, [.slice none 0 0]⟩),
  (181, ⟨ .arr 2 9, 2, [str [], str []]⟩),
  (182, ⟨ .struct [(9, 0, 1), (3, 1, 1), (3, 2, 1), (4, 3, 1)], 4, [str [], .int .i64 0, .int .i64 0, .bool false]⟩),
  (183, ⟨ .struct [(9, 0, 1), (3, 1, 1), (3, 2, 1), (4, 3, 1)], 4, [str [], .int .i64 0, .int .i64 0, .bool false]⟩),
  (186, ⟨ .int .u32, 1, [.int .u32 0]⟩),
  (191, ⟨ .arr 24 5, 24, [.int .u8 0, .int .u8 0, .int .u8 0, .int .u8 0, .int .u8 0, .int .u8 0, .int .u8 0, .int .u8 0, .int .u8 0, .int .u8 0, .int .u8 0, .int .u8 0, .int .u8 0, .int .u8 0, .int .u8 0, .int .u8 0, .int .u8 0, .int .u8 0, .int .u8 0, .int .u8 0, .int .u8 0, .int .u8 0, .int .u8 0, .int .u8 0]⟩),
  (196, ⟨ .arr 256 5, 256, List.replicate 256 (.int .u8 0)⟩),
  (210, ⟨ .arr 20 33, 20, [.int .u64 0, .int .u64 0, .int .u64 0, .int .u64 0, .int .u64 0, .int .u64 0, .int .u64 0, .int .u64 0, .int .u64 0, .int .u64 0, .int .u64 0, .int .u64 0, .int .u64 0, .int .u64 0, .int .u64 0, .int .u64 0, .int .u64 0, .int .u64 0, .int .u64 0, .int .u64 0]⟩),
  (211, ⟨ .arr 65 5, 65, List.replicate 65 (.int .u8 0)⟩),
  (213, ⟨ .slice 215, 1, [.slice none 0 0]⟩),
  (214, ⟨ .struct [(3, 0, 1), (3, 1, 1)], 2, [.int .i64 0, .int .i64 0]⟩),
  (215, ⟨ .struct [(3, 0, 1), (3, 1, 1)], 2, [.int .i64 0, .int .i64 0]⟩),
  (217, ⟨ .ptr 224, 1, [.pointer none]⟩),
  (221, ⟨ .slice 227, 1, [.slice none 0 0]⟩),
  (222, ⟨ .slice 230, 1, [.slice none 0 0]⟩),
  (223, ⟨ .struct [(221, 0, 1), (222, 1, 1), (3, 2, 1)], 3, [.slice none 0 0, .slice none 0 0, .int .i64 0]⟩),
  (224, ⟨ .struct [(221, 0, 1), (222, 1, 1), (3, 2, 1)], 3, [.slice none 0 0, .slice none 0 0, .int .i64 0]⟩),
  (225, ⟨ .int .u16, 1, [.int .u16 0]⟩),
  (226, ⟨ .struct [(225, 0, 1), (225, 1, 1), (225, 2, 1)], 3, [.int .u16 0, .int .u16 0, .int .u16 0]⟩),
  (227, ⟨ .struct [(225, 0, 1), (225, 1, 1), (225, 2, 1)], 3, [.int .u16 0, .int .u16 0, .int .u16 0]⟩),
  (229, ⟨ .struct [(186, 0, 1), (186, 1, 1), (186, 2, 1)], 3, [.int .u32 0, .int .u32 0, .int .u32 0]⟩),
  (230, ⟨ .struct [(186, 0, 1), (186, 1, 1), (186, 2, 1)], 3, [.int .u32 0, .int .u32 0, .int .u32 0]⟩),
  (234, ⟨ .arr 32 5, 32, [.int .u8 0, .int .u8 0, .int .u8 0, .int .u8 0, .int .u8 0, .int .u8 0, .int .u8 0, .int .u8 0, .int .u8 0, .int .u8 0, .int .u8 0, .int .u8 0, .int .u8 0, .int .u8 0, .int .u8 0, .int .u8 0, .int .u8 0, .int .u8 0, .int .u8 0, .int .u8 0, .int .u8 0, .int .u8 0, .int .u8 0, .int .u8 0, .int .u8 0, .int .u8 0, .int .u8 0, .int .u8 0, .int .u8 0, .int .u8 0, .int .u8 0, .int .u8 0]⟩),
  (235, ⟨ .arr 64 5, 64, List.replicate 64 (.int .u8 0)⟩),
  (236, ⟨ .ptr 227, 1, [.pointer none]⟩),
  (237, ⟨ .ptr 230, 1, [.pointer none]⟩),
  (244, ⟨ .arr 0 16, 0, []⟩),
  (245, ⟨ .struct [(244, 0, 0)], 0, []⟩)]
set_option maxRecDepth 100000 in
theorem T_ok : TOk Tryz.prog T := by
  repeat (first | exact trivial | refine ⟨by kernel_rfl, ?_⟩)
instance T_tab : TTab Tryz.prog T := ⟨T_ok⟩
end Go.Proofs.YtefipginoakecaaGreatDoor
end
section
/- Letters, digits; contracts of lex: letter, digit, while. -/
namespace Go.E
open Go
set_option linter.unusedVariables false
section
variable {P : Program} {T : TT} [hT : TTab P T]
theorem CodeOk.scope {a : Code} {k : Exit → Kt} {env : Env} {ro : Ro} {own : Chs} (hv : V P T a (fun e => match e with
    | .goto _ => fun _ _ _ => False
    | e => k e) env ro own) : CodeOk P (.scope a) k env ro own :=
  ⟨fun n σ Q hok hk h hs a' w hf hw => wp_scope_straight ((V_sound hT.ok hv).run n σ (Exit.noGoto Q) (by simpa [okS] using hok) (fun e env' ro' own' D h' hl hk' hs' hm => by
    cases e <;> first | exact hk'.elim | exact fun a2 w2 hf2 hw2 => hk _ env' ro' own' D h' hl hk' hs' hm a2 w2 hf2 hw2) h hs a' w hf hw)⟩
end
end Go.E
namespace Go.Proofs.YtefipginoakecaaGreatDoor
open Go Go.E
set_option linter.unusedVariables false
set_option linter.unusedSimpArgs false
set_option maxRecDepth 10000
def letB (u : UInt8) : Bool := (decide (97 ≤ u.toNat) && decide (u.toNat ≤ 122)) || (decide (65 ≤ u.toNat) && decide (u.toNat ≤ 90)) || decide (u.toNat = 95)
def digB (u : UInt8) : Bool := decide (48 ≤ u.toNat) && decide (u.toNat ≤ 57)
def nlB (u : UInt8) : Bool := decide (u.toNat ≠ 10)
def wordB (u : UInt8) : Bool := letB u || digB u
def patB (u : UInt8) : Bool := decide (u.toNat ≠ 47) && (decide (32 ≤ u.toNat) && decide (u.toNat < 127))
/-- What a function of one byte answers. -/
def ByteFn (f : FuncId) (S : UInt8 → Bool) : Prop := ∀ (u : UInt8) (ro : Ro) (own : Chs) (K : Value → Ro → Chs → Prop), K (.bool (S u)) ro own → CallOk Tryz.prog f #[.int .u8 ((u.toNat : Nat) : Int)] ro own K
theorem letter_ok : ByteFn 117 letB := fun u ro own K hk => by
  have hu := u.toNat_lt
  have hl : letB u = ((decide (97 ≤ u.toNat) && decide (u.toNat ≤ 122)) || (decide (65 ≤ u.toNat) && decide (u.toNat ≤ 90)) || decide (u.toNat = 95)) := rfl
  generalize letB u = q at hl hk
  refine CallOk.intro (args := [_]) (rs := [_]) T_ok Tryz.func117 Tryz.call117 rfl rfl (by kernel_rfl) rfl rfl ?_
  by_cases h1 : 97 ≤ u.toNat <;> by_cases h2 : u.toNat ≤ 122 <;> by_cases h3 : 65 ≤ u.toNat <;> by_cases h4 : u.toNat ≤ 90
  all_goals
    try omega
  all_goals
    repeat (first | exact endA | refine wkT ?_ | refine opB (fun b => ?_) | refine opA (fun a' c' hc1 hc2 => ?_) | (apply GJ.and; exact rfl; intro hg) | (apply GJ.or; exact rfl; intro hg))
    refine Wk.outV Sup.auto hk (congrArg Value.bool ?_)
    rw [hl]
    simp [h1, h2, h3, h4]
    try omega
theorem digit_ok : ByteFn 119 digB := fun u ro own K hk => by
  have hu := u.toNat_lt
  have hl : digB u = (decide (48 ≤ u.toNat) && decide (u.toNat ≤ 57)) := rfl
  generalize digB u = q at hl hk
  refine CallOk.intro (args := [_]) (rs := [_]) T_ok Tryz.func119 Tryz.call119 rfl rfl (by kernel_rfl) rfl rfl ?_
  by_cases h1 : 48 ≤ u.toNat <;> by_cases h2 : u.toNat ≤ 57
  all_goals
    try omega
  all_goals
    repeat (first | exact endA | refine wkT ?_ | refine opB (fun b => ?_) | refine opA (fun a' c' hc1 hc2 => ?_) | (apply GJ.and; exact rfl; intro hg) | (apply GJ.or; exact rfl; intro hg))
    refine Wk.outV Sup.auto hk (congrArg Value.bool ?_)
    rw [hl]
    simp [h1, h2]
    try omega
theorem nl_ok : ByteFn 116 nlB := fun u ro own K hk => by
  have hu := u.toNat_lt
  refine CallOk.intro (args := [_]) (rs := [_]) T_ok Tryz.func116 Tryz.call116 rfl rfl (by kernel_rfl) rfl rfl ?_
  repeat (first | exact endA | refine wkT ?_ | refine opB (fun b => ?_) | refine opA (fun a' c' hc1 hc2 => ?_) | (apply GJ.and; exact rfl; intro hg) | (apply GJ.or; exact rfl; intro hg))
  refine Wk.outV Sup.auto hk (congrArg Value.bool ?_)
  unfold nlB
  rw [decide_eq_decide]
  omega
theorem word_ok : ByteFn 118 wordB := fun u ro own K hk => by
  have hu := u.toNat_lt
  have hw : wordB u = (letB u || digB u) := rfl
  generalize wordB u = q at hw hk
  refine CallOk.intro (args := [_]) (rs := [_]) T_ok Tryz.func118 Tryz.call118 rfl rfl (by kernel_rfl) rfl rfl ?_
  repeat (first | exact endA | refine wkT ?_ | refine opB (fun b => ?_) | refine opA (fun a' c' hc1 hc2 => ?_) | (apply GJ.and; exact rfl; intro hg) | (apply GJ.or; exact rfl; intro hg))
  refine letter_ok u _ _ _ ?_
  obtain ⟨x, hx⟩ : ∃ x, letB u = x := ⟨_, rfl⟩
  rw [hx] at hw ⊢
  cases x with
  | true =>
    repeat (first | exact endA | refine wkT ?_ | refine opB (fun b => ?_) | refine opA (fun a' c' hc1 hc2 => ?_) | (apply GJ.and; exact rfl; intro hg) | (apply GJ.or; exact rfl; intro hg))
    exact Wk.outV Sup.auto hk (by rw [hw]; rfl)
  | false =>
    repeat (first | exact endA | refine wkT ?_ | refine opB (fun b => ?_) | refine opA (fun a' c' hc1 hc2 => ?_) | (apply GJ.and; exact rfl; intro hg) | (apply GJ.or; exact rfl; intro hg))
    refine digit_ok u _ _ _ ?_
    repeat (first | exact endA | refine wkT ?_ | refine opB (fun b => ?_) | refine opA (fun a' c' hc1 hc2 => ?_) | (apply GJ.and; exact rfl; intro hg) | (apply GJ.or; exact rfl; intro hg))
    exact Wk.outV Sup.auto hk (by rw [hw]; rfl)
theorem pat_ok : ByteFn 139 patB := fun u ro own K hk => by
  have hu := u.toNat_lt
  have hl : patB u = (decide (u.toNat ≠ 47) && (decide (32 ≤ u.toNat) && decide (u.toNat < 127))) := rfl
  generalize patB u = q at hl hk
  refine CallOk.intro (args := [_]) (rs := [_]) T_ok Tryz.func139 Tryz.call139 rfl rfl (by kernel_rfl) rfl rfl ?_
  by_cases h1 : u.toNat = 47 <;> by_cases h2 : 32 ≤ u.toNat <;> by_cases h3 : u.toNat < 127
  all_goals
    try omega
  all_goals
    repeat (first | exact endA | refine wkT ?_ | refine opB (fun b => ?_) | refine opA (fun a' c' hc1 hc2 => ?_) | (apply GJ.and; exact rfl; intro hg) | (apply GJ.or; exact rfl; intro hg))
    refine Wk.outV Sup.auto hk (congrArg Value.bool ?_)
    rw [hl]
    simp [h1, h2, h3]
    try omega
theorem takeWhile_at {α : Type} {S : α → Bool} : ∀ {l : List α} {i : Nat} {u : α}, l[i]? = some u → (i < (l.takeWhile S).length → S u = true) ∧ (i = (l.takeWhile S).length → S u = false)
  | [], i, u, h => by simp at h
  | x :: l, 0, u, h => by
    simp at h; subst h
    rw [List.takeWhile_cons]
    cases hx : S x <;> simp [hx]
  | x :: l, i + 1, u, h => by
    have ih := takeWhile_at (S := S) (l := l) (i := i) (u := u) (by simpa using h)
    rw [List.takeWhile_cons]
    cases hx : S x with
    | false => simp
    | true => simp; exact ih
theorem takeWhile_le {α : Type} (S : α → Bool) (l : List α) : (l.takeWhile S).length ≤ l.length := (List.takeWhile_sublist S).length_le
theorem takeWhile_take {α : Type} (S : α → Bool) (l : List α) : l.takeWhile S = l.take (l.takeWhile S).length := List.prefix_iff_eq_take.1 (List.takeWhile_prefix S)
theorem cutW {S : UInt8 → Bool} {tx : List UInt8} {a i : Nat} (h : ((tx.drop a).takeWhile S).length = i) : (tx.drop a).takeWhile S = List.take (((a + i : Nat) : Int).toNat - (a : Int).toNat) (List.drop (a : Int).toNat tx) := by
  rw [Int.toNat_natCast, Int.toNat_natCast, show a + i - a = i by omega, ← h]
  exact takeWhile_take S _
section
variable {ro : Ro} {own r : Chs} {K : Value → Ro → Chs → Prop} {g : Chunk → Chs}
theorem while_ok {fid : FuncId} {S : UInt8 → Bool} {b a : Nat} {tx : List UInt8} {o : Value} (hS : ByteFn fid S) (hat : a ≤ tx.length) (hl : tx.length ≤ 100000)
    (hk : K (str ((tx.drop a).takeWhile S)) ro (.blk b 158 [str tx, .int .i64 ((a + ((tx.drop a).takeWhile S).length : Nat) : Int), o] :: r)) : CallOk Tryz.prog 115 #[ptr' b, .func (.func fid) #[] #[]] ro (.blk b 158 [str tx, .int .i64 (a : Int), o] :: r) K := by
  obtain ⟨m, hm⟩ : ∃ m, ((tx.drop a).takeWhile S).length = m := ⟨_, rfl⟩
  have hml : m ≤ tx.length - a := by rw [← hm]; exact Nat.le_trans (takeWhile_le _ _) (by simp)
  rw [hm] at hk
  refine CallOk.intro (args := [_, _]) (rs := [_]) T_ok Tryz.func115 Tryz.call115 rfl rfl (by kernel_rfl) rfl rfl ?_
  repeat (first | exact endA | refine wkT ?_ | refine opB (fun b => ?_) | refine opA (fun a' c' hc1 hc2 => ?_) | (apply GJ.and; exact rfl; intro hg) | (apply GJ.or; exact rfl; intro hg))
  refine LoopOk.at (ι := Nat) Keep.auto (fun i => []) (fun i => .blk b 158 [str tx, .int .i64 ((a + i : Nat) : Int), o] :: r) (fun i => i ≤ m) (fun i => m - i) 0 ?_ Sub.auto Sup.auto ?_
  · exact Nat.zero_le _
  rintro i i1
  dsimp only [List.cons_append, List.nil_append] at i1 ⊢
  by_cases hb : a + i < tx.length
  · obtain ⟨u, hu⟩ : ∃ u, tx[a + i]? = some u := ⟨_, List.getElem?_eq_getElem hb⟩
    have hu2 : tx[((a + i : Nat) : Int).toNat]! = u := by
      rw [Int.toNat_natCast, List.getElem!_eq_getElem?_getD, hu]; rfl
    have hw := takeWhile_at (S := S) (l := tx.drop a) (i := i) (u := u) (by rw [List.getElem?_drop]; exact hu)
    rw [hm] at hw
    repeat (first | exact endA | refine wkA ?_ | refine opB (fun b => ?_) | refine opA (fun a' c' hc1 hc2 => ?_) | (apply GJ.and; exact rfl; intro hg) | (apply GJ.or; exact rfl; intro hg))
    try rw [hu2]
    refine hS u _ _ _ ?_
    cases hs : S u with
    | true =>
      repeat (first | exact endA | refine wkA ?_ | refine opB (fun b => ?_) | refine opA (fun a' c' hc1 hc2 => ?_) | (apply GJ.and; exact rfl; intro hg) | (apply GJ.or; exact rfl; intro hg))
      refine Wk.id ⟨i + 1, ⟨rfl, ?_⟩, ?_, Sub.auto, Sup.auto⟩
      all_goals try dsimp only
      · have : i ≠ m := fun e => by have := hw.2 e; rw [hs] at this; cases this
        omega
      · have : i ≠ m := fun e => by have := hw.2 e; rw [hs] at this; cases this
        omega
    | false =>
      have him : i = m := by
        apply Classical.byContradiction
        intro e
        have := hw.1 (by omega)
        rw [hs] at this; cases this
      subst him
      repeat (first | exact endA | refine wkA ?_ | refine opB (fun b => ?_) | refine opA (fun a' c' hc1 hc2 => ?_) | (apply GJ.and; exact rfl; intro hg) | (apply GJ.or; exact rfl; intro hg))
      exact Wk.outV Sup.auto hk (congrArg str (cutW hm))
  · obtain rfl : i = m := by omega
    repeat (first | exact endA | refine wkA ?_ | refine opB (fun b => ?_) | refine opA (fun a' c' hc1 hc2 => ?_) | (apply GJ.and; exact rfl; intro hg) | (apply GJ.or; exact rfl; intro hg))
    exact Wk.outV Sup.auto hk (congrArg str (cutW hm))
end
end Go.Proofs.YtefipginoakecaaGreatDoor
end
section
/- What is between two tokens; contracts of lex: gap, pattern. -/
namespace Go.Proofs.YtefipginoakecaaGreatDoor
open Go Go.E
set_option linter.unusedVariables false
set_option linter.unusedSimpArgs false
set_option maxRecDepth 10000
def gapD : Bool → List UInt8 → Nat
  | _, [] => 0
  | n, c :: r => if c.toNat = 10 then 1 + gapD false r else if n = true ∨ c.toNat = 32 ∨ c.toNat = 9 ∨ c.toNat = 13 then 1 + gapD n r else if c.toNat = 35 then 1 + gapD true r else 0
theorem gapD_le : ∀ (l : List UInt8) (n : Bool), gapD n l ≤ l.length
  | [], n => by cases n <;> simp [gapD]
  | c :: r, n => by
    have h1 := gapD_le r false
    have h2 := gapD_le r true
    have h3 := gapD_le r n
    rw [gapD, List.length_cons]
    split
    · omega
    · split
      · omega
      · split
        · omega
        · omega
theorem gapD_note : ∀ (r : List UInt8), gapD true r = (r.takeWhile nlB).length + gapD false (r.drop (r.takeWhile nlB).length)
  | [] => rfl
  | c :: r => by
    rw [List.takeWhile_cons]
    by_cases h : c.toNat = 10
    · have : nlB c = false := by unfold nlB; simp [h]
      rw [this]
      simp [gapD, h]
    · have : nlB c = true := by unfold nlB; simp [h]
      rw [this, gapD, if_neg h, if_pos (.inl rfl), gapD_note r]
      simp
      omega
theorem gapD_hash {c : UInt8} (r : List UInt8) (h : c.toNat = 35) : gapD false (c :: r) = ((c :: r).takeWhile nlB).length + gapD false ((c :: r).drop ((c :: r).takeWhile nlB).length) := by
  have h1 : nlB c = true := by unfold nlB; simp [h]
  rw [List.takeWhile_cons, h1, gapD, if_neg (by omega), if_neg (by simp; omega), if_pos h, gapD_note r]
  simp
  omega
section
variable {ro : Ro} {own r : Chs} {K : Value → Ro → Chs → Prop} {g : Chunk → Chs}
theorem gap_ok {b a : Nat} {tx : List UInt8} {o : Value} (hat : a ≤ tx.length) (hl : tx.length ≤ 100000)
    (hk : K (.tuple #[]) ro (.blk b 158 [str tx, .int .i64 ((a + gapD false (tx.drop a) : Nat) : Int), o] :: r)) : CallOk Tryz.prog 97 #[ptr' b] ro (.blk b 158 [str tx, .int .i64 (a : Int), o] :: r) K := by
  refine CallOk.intro (args := [_]) (rs := []) T_ok Tryz.func97 Tryz.call97 rfl rfl (by kernel_rfl) rfl rfl ?_
  repeat (first | exact endA | refine wkT ?_ | refine opB (fun b => ?_) | refine opA (fun a' c' hc1 hc2 => ?_) | (apply GJ.and; exact rfl; intro hg) | (apply GJ.or; exact rfl; intro hg))
  refine CodeOk.scope ?_
  repeat (first | exact endA | refine wkT ?_ | refine opB (fun b => ?_) | refine opA (fun a' c' hc1 hc2 => ?_) | (apply GJ.and; exact rfl; intro hg) | (apply GJ.or; exact rfl; intro hg))
  refine LoopOk.at (ι := Nat) Keep.auto (fun i => []) (fun i => .blk b 158 [str tx, .int .i64 ((a + i : Nat) : Int), o] :: r) (fun i => a + i ≤ tx.length ∧ i + gapD false (tx.drop (a + i)) = gapD false (tx.drop a)) (fun i => tx.length - (a + i)) 0 ?_ Sub.auto Sup.auto ?_
  · exact ⟨by omega, by simp⟩
  rintro i ⟨i1, i2⟩
  dsimp only [List.cons_append, List.nil_append] at i1 i2 ⊢
  by_cases hb : a + i < tx.length
  · obtain ⟨u, hu⟩ : ∃ u, tx[a + i]? = some u := ⟨_, List.getElem?_eq_getElem hb⟩
    have hu2 : tx[((a + i : Nat) : Int).toNat]! = u := by
      rw [Int.toNat_natCast, List.getElem!_eq_getElem?_getD, hu]; rfl
    have hd : tx.drop (a + i) = u :: tx.drop (a + (i + 1)) := by
      rw [List.drop_eq_getElem_cons hb]
      congr 1
      rw [List.getElem?_eq_getElem hb] at hu
      exact Option.some.inj hu
    have hun := u.toNat_lt
    rw [hd, gapD] at i2
    repeat (first | exact endA | refine wkA ?_ | refine opB (fun b => ?_) | refine opA (fun a' c' hc1 hc2 => ?_) | (apply GJ.and; exact rfl; intro hg) | (apply GJ.or; exact rfl; intro hg))
    try rw [hu2]
    refine SeqOk.pass ?_
    by_cases h1 : u.toNat = 32
    · rw [if_neg (by omega), if_pos (.inr (.inl h1))] at i2
      repeat (first | exact endA | refine wkA ?_ | refine opB (fun b => ?_) | refine opA (fun a' c' hc1 hc2 => ?_) | (apply GJ.and; exact rfl; intro hg) | (apply GJ.or; exact rfl; intro hg))
      refine Wk.id ⟨i + 1, ⟨rfl, ?_⟩, ?_, Sub.auto, Sup.auto⟩
      all_goals try dsimp only
      · exact ⟨by omega, by omega⟩
      · omega
    · by_cases h2 : u.toNat = 9
      · rw [if_neg (by omega), if_pos (.inr (.inr (.inl h2)))] at i2
        repeat (first | exact endA | refine wkA ?_ | refine opB (fun b => ?_) | refine opA (fun a' c' hc1 hc2 => ?_) | (apply GJ.and; exact rfl; intro hg) | (apply GJ.or; exact rfl; intro hg))
        refine Wk.id ⟨i + 1, ⟨rfl, ?_⟩, ?_, Sub.auto, Sup.auto⟩
        all_goals try dsimp only
        · exact ⟨by omega, by omega⟩
        · omega
      · by_cases h3 : u.toNat = 10
        · rw [if_pos h3] at i2
          repeat (first | exact endA | refine wkA ?_ | refine opB (fun b => ?_) | refine opA (fun a' c' hc1 hc2 => ?_) | (apply GJ.and; exact rfl; intro hg) | (apply GJ.or; exact rfl; intro hg))
          refine Wk.id ⟨i + 1, ⟨rfl, ?_⟩, ?_, Sub.auto, Sup.auto⟩
          all_goals try dsimp only
          · exact ⟨by omega, by omega⟩
          · omega
        · by_cases h4 : u.toNat = 13
          · rw [if_neg h3, if_pos (.inr (.inr (.inr h4)))] at i2
            repeat (first | exact endA | refine wkA ?_ | refine opB (fun b => ?_) | refine opA (fun a' c' hc1 hc2 => ?_) | (apply GJ.and; exact rfl; intro hg) | (apply GJ.or; exact rfl; intro hg))
            refine Wk.id ⟨i + 1, ⟨rfl, ?_⟩, ?_, Sub.auto, Sup.auto⟩
            all_goals try dsimp only
            · exact ⟨by omega, by omega⟩
            · omega
          · by_cases h5 : u.toNat = 35
            · have hh := gapD_hash (tx.drop (a + (i + 1))) h5
              rw [gapD] at hh
              rw [hh, ← hd] at i2
              have hwl := takeWhile_le nlB (tx.drop (a + i))
              rw [List.length_drop] at hwl
              have hw1 : 1 ≤ ((tx.drop (a + i)).takeWhile nlB).length := by
                have : nlB u = true := by unfold nlB; simp [h5]
                rw [hd, List.takeWhile_cons, this]; simp
              repeat (first | exact endA | refine wkA ?_ | refine opB (fun b => ?_) | refine opA (fun a' c' hc1 hc2 => ?_) | (apply GJ.and; exact rfl; intro hg) | (apply GJ.or; exact rfl; intro hg))
              refine while_ok nl_ok (by omega) hl ?_
              generalize ((tx.drop (a + i)).takeWhile nlB).length = w at *
              rw [show a + i + w = a + (i + w) by omega]
              repeat (first | exact endA | refine wkA ?_ | refine opB (fun b => ?_) | refine opA (fun a' c' hc1 hc2 => ?_) | (apply GJ.and; exact rfl; intro hg) | (apply GJ.or; exact rfl; intro hg))
              refine Wk.id ⟨i + w, ⟨rfl, ?_⟩, ?_, Sub.auto, Sup.auto⟩
              all_goals try dsimp only
              · refine ⟨by omega, ?_⟩
                rw [List.drop_drop] at i2
                rw [show a + (i + w) = a + i + w by omega]
                omega
              · omega
            · rw [if_neg h3, if_neg (by simp; omega), if_neg h5] at i2
              have e : gapD false (tx.drop a) = i := by omega
              rw [e] at hk
              repeat (first | exact endA | refine wkA ?_ | refine opB (fun b => ?_) | refine opA (fun a' c' hc1 hc2 => ?_) | (apply GJ.and; exact rfl; intro hg) | (apply GJ.or; exact rfl; intro hg))
              exact Wk.outS Sup.auto (.refl _) hk
  · have : a + i = tx.length := by omega
    have h0 : tx.drop (a + i) = [] := List.drop_eq_nil_of_le (by omega)
    rw [h0] at i2
    have e : gapD false (tx.drop a) = i := by rw [← i2]; simp [gapD]
    rw [e] at hk
    repeat (first | exact endA | refine wkA ?_ | refine opB (fun b => ?_) | refine opA (fun a' c' hc1 hc2 => ?_) | (apply GJ.and; exact rfl; intro hg) | (apply GJ.or; exact rfl; intro hg))
    exact Wk.outS Sup.auto (.refl _) hk
end
end Go.Proofs.YtefipginoakecaaGreatDoor
end
section
/- Contracts of lex: pattern; strings.HasPrefix. -/
namespace Go.Proofs.YtefipginoakecaaGreatDoor
open Go Go.E
set_option linter.unusedVariables false
set_option linter.unusedSimpArgs false
set_option maxRecDepth 10000
def tokV (k a : Nat) (x : List UInt8) : List Value := [.int .i64 (k : Int), .int .i64 (a : Int), str x]
/-- What is between two slashes, behind the first one: the text; where it is wrong: none. -/
def patD (l : List UInt8) : Option (List UInt8) := match (l.drop (l.takeWhile patB).length) with
  | [] => none
  | x :: _ => if x.toNat = 47 then some (l.takeWhile patB) else none
section
variable {ro : Ro} {own r : Chs} {K : Value → Ro → Chs → Prop} {g : Chunk → Chs}
theorem pattern_ok {p a : Nat} {tx : List UInt8} {o : Value} (hat : a < tx.length) (hl : tx.length ≤ 100000)
    (hk1 : ∀ w, patD (tx.drop (a + 1)) = some w → a + w.length + 2 ≤ tx.length → K (.tuple #[.agg (tokV 3 0 w).toArray, .int .i64 0]) ro (.blk p 158 [str tx, .int .i64 ((a + w.length + 2 : Nat) : Int), o] :: r))
    (hk2 : patD (tx.drop (a + 1)) = none → ∀ a' : Nat, a' ≤ tx.length → K (.tuple #[.agg (tokV 0 0 []).toArray, .int .i64 5]) ro (.blk p 158 [str tx, .int .i64 (a' : Int), o] :: r)) :
    CallOk Tryz.prog 120 #[ptr' p] ro (.blk p 158 [str tx, .int .i64 (a : Int), o] :: r) K := by
  have hwl := takeWhile_le patB (tx.drop (a + 1))
  rw [List.length_drop] at hwl
  refine CallOk.intro (args := [_]) (rs := [_, _]) T_ok Tryz.func120 Tryz.call120 rfl rfl (by kernel_rfl) rfl rfl ?_
  repeat (first | exact endA | refine wkT ?_ | refine opB (fun b => ?_) | refine opA (fun a' c' hc1 hc2 => ?_) | (apply GJ.and; exact rfl; intro hg) | (apply GJ.or; exact rfl; intro hg))
  refine CallOk.sup (own0 := .blk p 158 [str tx, .int .i64 ((a + 1 : Nat) : Int), o] :: .blk b 127 [.int .i64 0, .int .i64 0, str []] :: r) Sup.auto ?_
  refine while_ok pat_ok (by omega) hl ?_
  have hpd : patD (tx.drop (a + 1)) = (match tx.drop (a + 1 + ((tx.drop (a + 1)).takeWhile patB).length) with
    | [] => none
    | x :: _ => if x.toNat = 47 then some ((tx.drop (a + 1)).takeWhile patB) else none) := by unfold patD; rw [List.drop_drop]
  generalize (tx.drop (a + 1)).takeWhile patB = w at *
  by_cases hb : a + 1 + w.length < tx.length
  · obtain ⟨u, hu⟩ : ∃ u, tx[a + 1 + w.length]? = some u := ⟨_, List.getElem?_eq_getElem hb⟩
    have hu2 : tx[((a + 1 + w.length : Nat) : Int).toNat]! = u := by
      rw [Int.toNat_natCast, List.getElem!_eq_getElem?_getD, hu]; rfl
    have hd : tx.drop (a + 1 + w.length) = u :: tx.drop (a + 1 + w.length + 1) := by
      rw [List.drop_eq_getElem_cons hb]
      congr 1
      rw [List.getElem?_eq_getElem hb] at hu
      exact Option.some.inj hu
    rw [hd] at hpd
    simp only at hpd
    repeat (first | exact endA | refine wkA ?_ | refine opB (fun b => ?_) | refine opA (fun a' c' hc1 hc2 => ?_) | (apply GJ.and; exact rfl; intro hg) | (apply GJ.or; exact rfl; intro hg))
    try rw [hu2]
    by_cases h47 : u.toNat = 47
    · rw [if_pos h47] at hpd
      have hk := hk1 w hpd (by omega)
      rw [show a + w.length + 2 = a + 1 + w.length + 1 by omega] at hk
      repeat (first | exact endA | refine wkA ?_ | refine opB (fun b => ?_) | refine opA (fun a' c' hc1 hc2 => ?_) | (apply GJ.and; exact rfl; intro hg) | (apply GJ.or; exact rfl; intro hg))
      exact Wk.outS Sup.auto (.refl _) hk
    · rw [if_neg h47] at hpd
      have hk := hk2 hpd _ (Nat.le_of_lt hb)
      repeat (first | exact endA | refine wkA ?_ | refine opB (fun b => ?_) | refine opA (fun a' c' hc1 hc2 => ?_) | (apply GJ.and; exact rfl; intro hg) | (apply GJ.or; exact rfl; intro hg))
      exact Wk.outS Sup.auto (.refl _) hk
  · have h0 : tx.drop (a + 1 + w.length) = [] := List.drop_eq_nil_of_le (by omega)
    rw [h0] at hpd
    have hk := hk2 hpd (a + 1 + w.length) (by omega)
    repeat (first | exact endA | refine wkA ?_ | refine opB (fun b => ?_) | refine opA (fun a' c' hc1 hc2 => ?_) | (apply GJ.and; exact rfl; intro hg) | (apply GJ.or; exact rfl; intro hg))
    exact Wk.outS Sup.auto (.refl _) hk
theorem sprefix_ok {x y : List UInt8} (hx : x.length ≤ 1000000) (hy : y.length ≤ 1000000) (hk : K (.bool (y.isPrefixOf x)) ro own) : CallOk Tryz.prog 71 #[str x, str y] ro own K := by
  have hp : y.isPrefixOf x = decide (x.take y.length = y) := by
    rw [Bool.eq_iff_iff, List.isPrefixOf_iff_prefix, decide_eq_true_iff, List.prefix_iff_eq_take]
    exact eq_comm
  rw [hp] at hk
  refine CallOk.intro (args := [_, _]) (rs := [_]) T_ok Tryz.func71 Tryz.call71 rfl rfl (by kernel_rfl) rfl rfl ?_
  by_cases hl : y.length ≤ x.length
  · repeat (first | exact endA | refine wkT ?_ | refine opB (fun b => ?_) | refine opA (fun a' c' hc1 hc2 => ?_) | (apply GJ.and; exact rfl; intro hg) | (apply GJ.or; exact rfl; intro hg))
    exact Wk.outV Sup.auto hk (congrArg Value.bool (by rw [Int.toNat_natCast]))
  · have : decide (x.take y.length = y) = false := by
      rw [decide_eq_false_iff_not]
      intro e
      have := congrArg List.length e
      rw [List.length_take] at this
      omega
    rw [this] at hk
    repeat (first | exact endA | refine wkT ?_ | refine opB (fun b => ?_) | refine opA (fun a' c' hc1 hc2 => ?_) | (apply GJ.and; exact rfl; intro hg) | (apply GJ.or; exact rfl; intro hg))
    exact Wk.outV Sup.auto hk rfl
theorem prefix_ok {x y : List UInt8} (hx : x.length ≤ 1000000) (hy : y.length ≤ 1000000) (hk : K (.bool (y.isPrefixOf x)) ro own) : CallOk Tryz.prog 37 #[str x, str y] ro own K := by
  refine CallOk.intro (args := [_, _]) (rs := [_]) T_ok Tryz.func37 Tryz.call37 rfl rfl (by kernel_rfl) rfl rfl ?_
  repeat (first | exact endA | refine wkT ?_ | refine opB (fun b => ?_) | refine opA (fun a' c' hc1 hc2 => ?_) | (apply GJ.and; exact rfl; intro hg) | (apply GJ.or; exact rfl; intro hg))
  refine sprefix_ok hx hy ?_
  repeat (first | exact endA | refine wkT ?_ | refine opB (fun b => ?_) | refine opA (fun a' c' hc1 hc2 => ?_) | (apply GJ.and; exact rfl; intro hg) | (apply GJ.or; exact rfl; intro hg))
  exact Wk.outS Sup.auto (.refl _) hk
end
end Go.Proofs.YtefipginoakecaaGreatDoor
end
section
/- The table of blanks; strings.Fields of all signs. -/
namespace Go.Proofs.YtefipginoakecaaGreatDoor
open Go Go.E
set_option linter.unusedVariables false
set_option linter.unusedSimpArgs false
set_option maxRecDepth 10000
def spI (i : Nat) : Int := if 9 ≤ i ∧ i ≤ 13 ∨ i = 32 then 1 else 0
def spL : List Int := (List.range 256).map spI
structure SpOk (ro : Ro) : Prop where
  cells : ∃ cs t fr, ro 1 = some (.cells cs t fr) ∧ ∀ i, i < 256 → cs[i]? = some (.int .u8 (spI i))
theorem SpOk.le {ro ro' : Ro} (h : SpOk ro) (hl : Le ro ro') : SpOk ro' := by
  obtain ⟨cs, t, fr, h1, h2⟩ := h.cells
  exact ⟨cs, t, fr, hl.le _ _ h1, h2⟩
theorem SpOk.ld {ro : Ro} {own : Chs} {o i : Nat} (h : SpOk ro) (ho : o = i) (hi : i < 256) : Ld ro own 1 o (.int .u8 (spI i)) := fun hp hs => by
  subst ho
  obtain ⟨cs, t, fr, h1, h2⟩ := h.cells
  have := hs.last _ _ h1
  rw [cellAt_of this]; exact h2 o hi
theorem SpOk.ofLaid {W : World} {x : String × DataW Unit} {rest : List (String × DataW Unit)} (h : laidMet Tryz.prog (x :: ("strings.asciiSpace", Lib.tabData .u8 spL) :: rest) W) : SpOk (hm W.heap) := by
  have hg : Tryz.prog.globalNamed "strings.asciiSpace" = some 1 := by kernel_rfl
  have hT := Lib.tabIs_of_head (n := 256) hg (by kernel_rfl) Tryz.underlying196 Tryz.underlying5 (by kernel_rfl) (by kernel_rfl) h.tail
  unfold Lib.TabIs World.var? at hT
  rw [hg] at hT
  simp only [Option.bind_some] at hT
  split at hT
  · rename_i cs t fr he
    cases hT
    refine ⟨⟨_, _, _, he, fun i hi => ?_⟩⟩
    simp [spL, hi]
  · cases hT
def sgB : List UInt8 := [46, 46, 32, 61, 32, 59, 32, 123, 32, 125, 32, 91, 32, 93, 32, 40, 32, 41, 32, 58, 32, 124, 32, 42, 32, 43, 32, 37]
def sgU (i : Nat) : UInt8 := sgB.getD i 0
def spU (u : UInt8) : Int := spI u.toNat
def wF : Nat → Int
  | 0 => 1
  | i + 1 => spU (sgU i)
def nF : Nat → Int
  | 0 => 0
  | i + 1 => nF i + iand (wF i) (ixor (-1) (spU (sgU i)))
def bF : Nat → Nat
  | 0 => 0
  | i + 1 => bF i ||| (sgU i).toNat
def naF : Nat → Nat
  | 0 => 0
  | i + 1 => if spU (sgU i) = 0 then naF i else naF i + 1
def fsF : Nat → Nat
  | 0 => 0
  | i + 1 => if spU (sgU i) = 0 then fsF i else i + 1
def tbF : Nat → List (List UInt8)
  | 0 => List.replicate 14 []
  | i + 1 => if spU (sgU i) = 0 then tbF i else (tbF i).set (naF i) ((sgB.drop (fsF i)).take (i - fsF i))
def signsL : List (List UInt8) := [[46, 46], [61], [59], [123], [125], [91], [93], [40], [41], [58], [124], [42], [43], [37]]
theorem sg_one : ∀ i, i ≤ 28 → 0 ≤ nF i ∧ nF i ≤ 28 ∧ (wF i = 0 ∨ wF i = 1) ∧ bF i < 128 := by decide +kernel
theorem sg_get : ∀ i, i < 28 → sgB[i]? = some (sgU i) := by decide +kernel
theorem sg_n : nF 28 = 14 := by decide +kernel
theorem sg_two : ∀ i, i ≤ 28 → naF i ≤ 13 ∧ fsF i ≤ i ∧ (tbF i).length = 14 := by decide +kernel
theorem sg_next : ∀ i, i < 27 → spU (sgU i) ≠ 0 → spU (sgU (i + 1)) = 0 := by decide +kernel
theorem sg_end : fsF 28 = 27 ∧ naF 28 = 13 ∧ (tbF 28).set 13 (sgB.drop 27) = signsL ∧ spU (sgU 27) = 0 := by decide +kernel
section
variable {ro : Ro} {own r : Chs} {K : Value → Ro → Chs → Prop} {g : Chunk → Chs}
set_option maxHeartbeats 2000000 in
theorem fields_ok (hS : SpOk ro) (hk : ∀ b : Nat, K (.slice (some ⟨b, 0, none⟩) 14 14) ro (.sl (some ⟨b, 0, none⟩) 14 14 9 1 (signsL.map str) :: own)) : CallOk Tryz.prog 121 #[str sgB] ro own K := by
  have hlen : sgB.length = 28 := rfl
  obtain ⟨sg, hsg⟩ : ∃ x, sgB = x := ⟨_, rfl⟩
  rw [hsg] at hlen ⊢
  have hget := sg_get
  rw [hsg] at hget
  refine CallOk.intro (args := [_]) (rs := [_]) T_ok Tryz.func121 Tryz.call121 rfl rfl (by kernel_rfl) rfl rfl ?_
  repeat (first | exact endA | refine wkT ?_ | refine opB (fun b => ?_) | refine opA (fun a' c' hc1 hc2 => ?_) | (apply GJ.and; exact rfl; intro hg) | (apply GJ.or; exact rfl; intro hg))
  refine LoopOk.at (ι := Nat) Keep.auto (fun i => [(6, .int .i64 (i : Int)), (3, .int .i64 (nF i)), (4, .int .i64 (wF i)), (5, .int .u8 ((bF i : Nat) : Int))]) (fun i => own) (fun i => i ≤ 28) (fun i => 28 - i) 0 ?_ Sub.auto Sup.auto ?_
  · exact Nat.zero_le _
  rintro i i1
  dsimp only [List.cons_append, List.nil_append] at i1 ⊢
  by_cases hb : i < 28
  · have hu := hget i hb
    have h1 := sg_one i i1
    have h2 := sg_one (i + 1) hb
    have hn : nF (i + 1) = nF i + iand (wF i) (ixor (-1) (spU (sgU i))) := rfl
    have hw : wF (i + 1) = spU (sgU i) := rfl
    have hbb : bF (i + 1) = bF i ||| (sgU i).toNat := rfl
    have hsp : spU (sgU i) = spI (sgU i).toNat := rfl
    generalize hn2 : nF (i + 1) = n2 at hn h2
    generalize hw2 : wF (i + 1) = w2 at hw h2
    generalize hb2 : bF (i + 1) = b2 at hbb h2
    generalize hn1 : nF i = n1 at h1 hn ⊢
    generalize hw1 : wF i = w1 at h1 hn ⊢
    generalize hb1 : bF i = b1 at h1 hbb ⊢
    generalize sgU i = u at hu hn hw hbb hsp
    generalize spU u = s at hn hw hsp
    have hun := u.toNat_lt
    have hu2 : sg[(i : Int).toNat]! = u := by
      rw [Int.toNat_natCast, List.getElem!_eq_getElem?_getD, hu]; rfl
    have hor : nor2 ((b1 : Nat) : Int) ((u.toNat : Nat) : Int) = ((b2 : Nat) : Int) := by rw [hbb]; rfl
    repeat (first | exact endA | refine wkT ?_ | refine opB (fun b => ?_) | refine opA (fun a' c' hc1 hc2 => ?_) | (apply GJ.and; exact rfl; intro hg) | (apply GJ.or; exact rfl; intro hg))
    rw [hu2, hor]
    refine ⟨by omega, ?_⟩
    repeat (first | exact endA | refine wkT ?_ | refine opB (fun b => ?_) | refine opA (fun a' c' hc1 hc2 => ?_) | (apply GJ.and; exact rfl; intro hg) | (apply GJ.or; exact rfl; intro hg))
    refine OpOk.load rfl rfl (hS.ld (i := u.toNat) (by omega) (by omega)) ?_
    rw [← hsp]
    repeat (first | exact endA | refine wkT ?_ | refine opB (fun b => ?_) | refine opA (fun a' c' hc1 hc2 => ?_) | (apply GJ.and; exact rfl; intro hg) | (apply GJ.or; exact rfl; intro hg))
    refine OpOk.notI rfl ?_
    generalize ixor (-1) s = x at hn ⊢
    repeat (first | exact endA | refine wkT ?_ | refine opB (fun b => ?_) | refine opA (fun a' c' hc1 hc2 => ?_) | (apply GJ.and; exact rfl; intro hg) | (apply GJ.or; exact rfl; intro hg))
    refine OpOk.andI rfl rfl ?_
    generalize iand w1 x = y at hn ⊢
    repeat (first | exact endA | refine wkT ?_ | refine opB (fun b => ?_) | refine opA (fun a' c' hc1 hc2 => ?_) | (apply GJ.and; exact rfl; intro hg) | (apply GJ.or; exact rfl; intro hg))
    try rw [← hn]
    repeat (first | exact endA | refine wkT ?_ | refine opB (fun b => ?_) | refine opA (fun a' c' hc1 hc2 => ?_) | (apply GJ.and; exact rfl; intro hg) | (apply GJ.or; exact rfl; intro hg))
    try rw [← hn]
    try rw [← hw]
    subst hn2
    subst hw2
    subst hb2
    refine Wk.id ⟨i + 1, ⟨rfl, ?_⟩, ?_, Sub.auto, Sup.auto⟩
    all_goals try dsimp only
    · omega
    · omega
  · obtain rfl : i = 28 := by omega
    have h1 := sg_one 28 (Nat.le_refl _)
    rw [sg_n] at h1 ⊢
    generalize wF 28 = w at h1 ⊢
    generalize bF 28 = bb at h1 ⊢
    repeat (first | exact endA | refine wkT ?_ | refine opB (fun b => ?_) | refine opA (fun a' c' hc1 hc2 => ?_) | (apply GJ.and; exact rfl; intro hg) | (apply GJ.or; exact rfl; intro hg))
    have hu0 : sg[Int.toNat 0]! = 46 := by rw [← hsg]; rfl
    have hs46 : spI 46 = 0 := by decide
    have hx46 : (46 : UInt8).toNat = 46 := rfl
    refine LoopOk.at (ι := Unit) Keep.auto (fun _u => [(12, .int .i64 0)]) (fun _u => .sl (some ⟨b, 0, none⟩) 14 14 9 1 (List.replicate 14 (str [])) :: own) (fun _u => True) (fun _u => 0) () ?_ Sub.auto Sup.auto ?_
    · trivial
    rintro _u -
    dsimp only [List.cons_append, List.nil_append]
    repeat (first | exact endA | refine wkA ?_ | refine opB (fun b => ?_) | refine opA (fun a' c' hc1 hc2 => ?_) | (apply GJ.and; exact rfl; intro hg) | (apply GJ.or; exact rfl; intro hg))
    try rw [hu0]
    repeat (first | exact endA | refine wkA ?_ | refine opB (fun b => ?_) | refine opA (fun a' c' hc1 hc2 => ?_) | (apply GJ.and; exact rfl; intro hg) | (apply GJ.or; exact rfl; intro hg))
    refine OpOk.load rfl rfl (hS.ld (i := 46) (by omega) (by omega)) ?_
    rw [hs46]
    repeat (first | exact endA | refine wkA ?_ | refine opB (fun b => ?_) | refine opA (fun a' c' hc1 hc2 => ?_) | (apply GJ.and; exact rfl; intro hg) | (apply GJ.or; exact rfl; intro hg))
    refine LoopOk.at (ι := Nat) Keep.auto (fun i => [(12, .int .i64 (i : Int)), (10, .int .i64 ((naF i : Nat) : Int)), (11, .int .i64 ((fsF i : Nat) : Int))]) (fun i => .sl (some ⟨b, 0, none⟩) 14 14 9 1 ((tbF i).map str) :: own) (fun i => i ≤ 28) (fun i => 28 - i) 0 ?_ Sub.auto Sup.auto ?_
    · exact Nat.zero_le _
    rintro i i1
    dsimp only [List.cons_append, List.nil_append] at i1 ⊢
    have h2 := sg_two i i1
    by_cases hb : i < 28
    · have hu := hget i hb
      have h3 := sg_next i
      have h4 := sg_end.2.2.2
      have hna : naF (i + 1) = if spU (sgU i) = 0 then naF i else naF i + 1 := rfl
      have hfs : fsF (i + 1) = if spU (sgU i) = 0 then fsF i else i + 1 := rfl
      have htb : tbF (i + 1) = if spU (sgU i) = 0 then tbF i else (tbF i).set (naF i) ((sg.drop (fsF i)).take (i - fsF i)) := by rw [← hsg]; rfl
      have hsp : spU (sgU i) = spI (sgU i).toNat := rfl
      have hs1 := (sg_one (i + 1) hb).2.2.1
      have hw : wF (i + 1) = spU (sgU i) := rfl
      rw [hw] at hs1
      have hi27 : spU (sgU i) ≠ 0 → i < 27 := fun hne => by
        rcases Nat.lt_or_ge i 27 with h | h
        · exact h
        · obtain rfl : i = 27 := by omega
          exact absurd h4 hne
      clear hw h4
      generalize hn1 : naF i = na at hna htb h2 ⊢
      generalize hf1 : fsF i = fs at hfs htb h2 ⊢
      generalize ht1 : tbF i = tb at htb h2 ⊢
      generalize hui : sgU i = u at hu h3 hna hfs htb hsp hs1 hi27
      generalize hsu : spU u = s at h3 hna hfs htb hsp hs1 hi27
      have hun := u.toNat_lt
      have hu2 : sg[(i : Int).toNat]! = u := by
        rw [Int.toNat_natCast, List.getElem!_eq_getElem?_getD, hu]; rfl
      repeat (first | exact endA | refine wkA ?_ | refine opB (fun b => ?_) | refine opA (fun a' c' hc1 hc2 => ?_) | (apply GJ.and; exact rfl; intro hg) | (apply GJ.or; exact rfl; intro hg))
      try rw [hu2]
      repeat (first | exact endA | refine wkA ?_ | refine opB (fun b => ?_) | refine opA (fun a' c' hc1 hc2 => ?_) | (apply GJ.and; exact rfl; intro hg) | (apply GJ.or; exact rfl; intro hg))
      refine OpOk.load rfl rfl (hS.ld (i := u.toNat) (by omega) (by omega)) ?_
      rw [← hsp]
      by_cases hs0 : s = 0
      · rw [if_pos hs0] at hna hfs htb
        repeat (first | exact endA | refine wkA ?_ | refine opB (fun b => ?_) | refine opA (fun a' c' hc1 hc2 => ?_) | (apply GJ.and; exact rfl; intro hg) | (apply GJ.or; exact rfl; intro hg))
        rw [← htb]
        refine Wk.id ⟨i + 1, ⟨rfl, ?_⟩, ?_, Sub.auto, Sup.auto⟩
        all_goals try dsimp only
        · omega
        · omega
      · rw [if_neg hs0] at hna hfs htb
        have hi := hi27 hs0
        have h5 := h3 hi hs0
        have hu3 := hget (i + 1) (by omega)
        have hsp3 : spU (sgU (i + 1)) = spI (sgU (i + 1)).toNat := rfl
        generalize sgU (i + 1) = u3 at h5 hu3 hsp3
        have hun3 := u3.toNat_lt
        have hu4 : sg[((i : Int) + 1).toNat]! = u3 := by
          rw [show ((i : Int) + 1).toNat = i + 1 by omega, List.getElem!_eq_getElem?_getD, hu3]; rfl
        have hml : (List.map str tb).length = 14 := by rw [List.length_map]; exact h2.2.2
        have hset : (List.map str tb).set na (str (List.take ((i : Int).toNat - (fs : Int).toNat) (List.drop (fs : Int).toNat sg))) = List.map str (tbF (i + 1)) := by
          rw [htb, List.map_set]; rfl
        repeat (first | exact endA | refine wkA ?_ | refine opB (fun b => ?_) | refine opA (fun a' c' hc1 hc2 => ?_) | (apply GJ.and; exact rfl; intro hg) | (apply GJ.or; exact rfl; intro hg))
        refine OpOk.storeSl (k := na) rfl rfl rfl rfl (by omega) ?_
        rw [hset]
        repeat (first | exact endA | refine wkA ?_ | refine opB (fun b => ?_) | refine opA (fun a' c' hc1 hc2 => ?_) | (apply GJ.and; exact rfl; intro hg) | (apply GJ.or; exact rfl; intro hg))
        refine LoopOk.at (ι := Unit) Keep.auto (fun _u => [(12, .int .i64 ((i : Int) + 1))]) (fun _u => .sl (some ⟨b, 0, none⟩) 14 14 9 1 (List.map str (tbF (i + 1))) :: own) (fun _u => True) (fun _u => 0) () ?_ Sub.auto Sup.auto ?_
        · trivial
        rintro _u -
        dsimp only [List.cons_append, List.nil_append]
        repeat (first | exact endA | refine wkA ?_ | refine opB (fun b => ?_) | refine opA (fun a' c' hc1 hc2 => ?_) | (apply GJ.and; exact rfl; intro hg) | (apply GJ.or; exact rfl; intro hg))
        try rw [hu4]
        repeat (first | exact endA | refine wkA ?_ | refine opB (fun b => ?_) | refine opA (fun a' c' hc1 hc2 => ?_) | (apply GJ.and; exact rfl; intro hg) | (apply GJ.or; exact rfl; intro hg))
        refine OpOk.load rfl rfl (hS.ld (i := u3.toNat) (by omega) (by omega)) ?_
        rw [← hsp3, h5]
        repeat (first | exact endA | refine wkA ?_ | refine opB (fun b => ?_) | refine opA (fun a' c' hc1 hc2 => ?_) | (apply GJ.and; exact rfl; intro hg) | (apply GJ.or; exact rfl; intro hg))
        refine Wk.id ⟨i + 1, ⟨rfl, ?_⟩, ?_, Sub.auto, Sup.auto⟩
        all_goals try dsimp only
        · omega
        · omega
    · obtain rfl : i = 28 := by omega
      obtain ⟨e1, e2, e3, _⟩ := sg_end
      rw [hsg] at e3
      rw [e1, e2]
      generalize tbF 28 = tb at e3 h2 ⊢
      have hml : (List.map str tb).length = 14 := by rw [List.length_map]; exact h2.2.2
      have hset : (List.map str tb).set 13 (str (List.drop ((27 : Nat) : Int).toNat sg)) = List.map str signsL := by
        rw [← e3, List.map_set]; rfl
      repeat (first | exact endA | refine wkA ?_ | refine opB (fun b => ?_) | refine opA (fun a' c' hc1 hc2 => ?_) | (apply GJ.and; exact rfl; intro hg) | (apply GJ.or; exact rfl; intro hg))
      refine SeqOk.pass ?_
      repeat (first | exact endA | refine wkA ?_ | refine opB (fun b => ?_) | refine opA (fun a' c' hc1 hc2 => ?_) | (apply GJ.and; exact rfl; intro hg) | (apply GJ.or; exact rfl; intro hg))
      refine OpOk.storeSl (k := 13) rfl rfl rfl rfl (by omega) ?_
      rw [hset]
      repeat (first | exact endA | refine wkA ?_ | refine opB (fun b => ?_) | refine opA (fun a' c' hc1 hc2 => ?_) | (apply GJ.and; exact rfl; intro hg) | (apply GJ.or; exact rfl; intro hg))
      exact Wk.outS Sup.auto (.refl _) (hk b)
end
end Go.Proofs.YtefipginoakecaaGreatDoor
end
section
/- Contracts of lex: next. -/
namespace Go.Proofs.YtefipginoakecaaGreatDoor
open Go Go.E
set_option linter.unusedVariables false
set_option linter.unusedSimpArgs false
set_option maxRecDepth 10000
/-- The token at the front: its kind, its text, how many bytes it has, the error's number. -/
def frontD (l : List UInt8) : Nat × List UInt8 × Nat × Nat := match l with
  | [] => (0, [], 0, 100)
  | c :: r => if letB c = true then (if 24 < (l.takeWhile wordB).length then (0, [], 0, 2) else (1, l.takeWhile wordB, (l.takeWhile wordB).length, 0))
    else if digB c = true then (if 20 < (l.takeWhile digB).length then (0, [], 0, 2) else if 1 < (l.takeWhile digB).length ∧ c.toNat = 48 then (0, [], 0, 5) else (2, l.takeWhile digB, (l.takeWhile digB).length, 0))
    else if c.toNat = 47 then (match patD r with
      | none => (0, [], 0, 5)
      | some w => (3, w, w.length + 2, 0))
    else match signsL.find? (·.isPrefixOf l) with
      | some s => (4, s, s.length, 0)
      | none => (0, [], 0, 100)
theorem signs_len : ∀ j, j < 14 → (signsL[j]!).length ≤ 2 ∧ 1 ≤ (signsL[j]!).length := by decide +kernel
theorem find_none {α : Type} {f : α → Bool} {l : List α} (h : ∀ x ∈ l, f x = false) : l.find? f = none := by
  rw [List.find?_eq_none]; intro x hx; simp [h x hx]
theorem find_at {α : Type} [Inhabited α] {f : α → Bool} : ∀ {l : List α} {j : Nat}, j < l.length → f l[j]! = true → (∀ i, i < j → f l[i]! = false) → l.find? f = some l[j]!
  | [], j, h, _, _ => by simp at h
  | x :: l, 0, _, h1, _ => by rw [List.find?_cons]; have : f x = true := h1; rw [this]; rfl
  | x :: l, j + 1, h, h1, h2 => by
    have h0 : f x = false := h2 0 (by omega)
    rw [List.find?_cons, h0]
    exact find_at (l := l) (j := j) (by simpa using h) h1 (fun i hi => h2 (i + 1) (by omega))
section
variable {ro : Ro} {own r : Chs} {K : Value → Ro → Chs → Prop} {g : Chunk → Chs}
set_option maxHeartbeats 4000000 in
theorem next_ok {p a : Nat} {tx : List UInt8} {o : Value} (hS : SpOk ro) (hat : a < tx.length) (hl : tx.length ≤ 100000)
    (hk1 : ∀ k w n, frontD (tx.drop a) = (k, w, n, 0) → a + n ≤ tx.length → 1 ≤ n → K (.tuple #[.agg (tokV k 0 w).toArray, .int .i64 0]) ro (.blk p 158 [str tx, .int .i64 ((a + n : Nat) : Int), o] :: r))
    (hk2 : ∀ code : Nat, frontD (tx.drop a) = (0, [], 0, code) → code ≠ 0 → code ≤ 1000 → ∀ a' : Nat, a' ≤ tx.length → K (.tuple #[.agg (tokV 0 0 []).toArray, .int .i64 (code : Int)]) ro (.blk p 158 [str tx, .int .i64 (a' : Int), o] :: r)) :
    CallOk Tryz.prog 98 #[ptr' p] ro (.blk p 158 [str tx, .int .i64 (a : Int), o] :: r) K := by
  obtain ⟨u, hu⟩ : ∃ u, tx[a]? = some u := ⟨_, List.getElem?_eq_getElem hat⟩
  have hu2 : tx[(a : Int).toNat]! = u := by
    rw [Int.toNat_natCast, List.getElem!_eq_getElem?_getD, hu]; rfl
  have hd : tx.drop a = u :: tx.drop (a + 1) := by
    rw [List.drop_eq_getElem_cons hat]
    congr 1
    rw [List.getElem?_eq_getElem hat] at hu
    exact Option.some.inj hu
  have hun := u.toNat_lt
  have hfr : frontD (tx.drop a) = if letB u = true then (if 24 < ((tx.drop a).takeWhile wordB).length then (0, [], 0, 2) else (1, (tx.drop a).takeWhile wordB, ((tx.drop a).takeWhile wordB).length, 0))
    else if digB u = true then (if 20 < ((tx.drop a).takeWhile digB).length then (0, [], 0, 2) else if 1 < ((tx.drop a).takeWhile digB).length ∧ u.toNat = 48 then (0, [], 0, 5) else (2, (tx.drop a).takeWhile digB, ((tx.drop a).takeWhile digB).length, 0))
    else if u.toNat = 47 then (match patD (tx.drop (a + 1)) with
      | none => (0, [], 0, 5)
      | some w => (3, w, w.length + 2, 0))
    else match signsL.find? (·.isPrefixOf (tx.drop a)) with
      | some s => (4, s, s.length, 0)
      | none => (0, [], 0, 100) := by rw [hd]; rfl
  have hw1 := takeWhile_le wordB (tx.drop a)
  have hw2 := takeWhile_le digB (tx.drop a)
  rw [List.length_drop] at hw1 hw2
  have hp1 : letB u = true → 1 ≤ ((tx.drop a).takeWhile wordB).length := fun h => by
    rw [hd, List.takeWhile_cons, show wordB u = true by unfold wordB; rw [h]; rfl]; simp
  have hp2 : digB u = true → 1 ≤ ((tx.drop a).takeWhile digB).length ∧ ((tx.drop a).takeWhile digB)[0]! = u := fun h => by
    rw [hd, List.takeWhile_cons, h]; simp
  refine CallOk.intro (args := [_]) (rs := [_, _]) T_ok Tryz.func98 Tryz.call98 rfl rfl (by kernel_rfl) rfl rfl ?_
  repeat (first | exact endA | refine wkA ?_ | refine opB (fun b => ?_) | refine opA (fun a' c' hc1 hc2 => ?_) | (apply GJ.and; exact rfl; intro hg) | (apply GJ.or; exact rfl; intro hg))
  try rw [hu2]
  repeat (first | exact endA | refine wkA ?_ | refine opB (fun b => ?_) | refine opA (fun a' c' hc1 hc2 => ?_) | (apply GJ.and; exact rfl; intro hg) | (apply GJ.or; exact rfl; intro hg))
  refine letter_ok u _ _ _ ?_
  obtain ⟨x, hx⟩ : ∃ x, letB u = x := ⟨_, rfl⟩
  rw [hx] at hfr hp1 ⊢
  cases x with
  | true =>
    rw [if_pos rfl] at hfr
    have hp1 := hp1 rfl
    repeat (first | exact endA | refine wkA ?_ | refine opB (fun b => ?_) | refine opA (fun a' c' hc1 hc2 => ?_) | (apply GJ.and; exact rfl; intro hg) | (apply GJ.or; exact rfl; intro hg))
    refine CallOk.sup (own0 := .blk p 158 [str tx, .int .i64 (a : Int), o] :: .blk b 127 [.int .i64 0, .int .i64 0, str []] :: r) Sup.auto ?_
    refine while_ok word_ok (by omega) hl ?_
    generalize (tx.drop a).takeWhile wordB = w at *
    by_cases hg : 24 < w.length
    · rw [if_pos hg] at hfr
      have hk := hk2 2 hfr (by omega) (by omega) (a + w.length) (by omega)
      repeat (first | exact endA | refine wkA ?_ | refine opB (fun b => ?_) | refine opA (fun a' c' hc1 hc2 => ?_) | (apply GJ.and; exact rfl; intro hg) | (apply GJ.or; exact rfl; intro hg))
      exact Wk.outS Sup.auto (.refl _) hk
    · rw [if_neg hg] at hfr
      have hk := hk1 _ _ _ hfr (by omega) hp1
      repeat (first | exact endA | refine wkA ?_ | refine opB (fun b => ?_) | refine opA (fun a' c' hc1 hc2 => ?_) | (apply GJ.and; exact rfl; intro hg) | (apply GJ.or; exact rfl; intro hg))
      exact Wk.outS Sup.auto (.refl _) hk
  | false =>
    rw [if_neg (by simp)] at hfr
    repeat (first | exact endA | refine wkA ?_ | refine opB (fun b => ?_) | refine opA (fun a' c' hc1 hc2 => ?_) | (apply GJ.and; exact rfl; intro hg) | (apply GJ.or; exact rfl; intro hg))
    refine digit_ok u _ _ _ ?_
    obtain ⟨y, hy⟩ : ∃ y, digB u = y := ⟨_, rfl⟩
    rw [hy] at hfr hp2 ⊢
    cases y with
    | true =>
      rw [if_pos rfl] at hfr
      have hp2 := hp2 rfl
      repeat (first | exact endA | refine wkA ?_ | refine opB (fun b => ?_) | refine opA (fun a' c' hc1 hc2 => ?_) | (apply GJ.and; exact rfl; intro hg) | (apply GJ.or; exact rfl; intro hg))
      refine CallOk.sup (own0 := .blk p 158 [str tx, .int .i64 (a : Int), o] :: .blk b 127 [.int .i64 0, .int .i64 0, str []] :: r) Sup.auto ?_
      refine while_ok digit_ok (by omega) hl ?_
      generalize (tx.drop a).takeWhile digB = w at *
      obtain ⟨hp2, hp3⟩ := hp2
      by_cases hg : 20 < w.length
      · rw [if_pos hg] at hfr
        have hk := hk2 2 hfr (by omega) (by omega) (a + w.length) (by omega)
        repeat (first | exact endA | refine wkA ?_ | refine opB (fun b => ?_) | refine opA (fun a' c' hc1 hc2 => ?_) | (apply GJ.and; exact rfl; intro hg) | (apply GJ.or; exact rfl; intro hg))
        exact Wk.outS Sup.auto (.refl _) hk
      · rw [if_neg hg] at hfr
        have hp4 : w[Int.toNat 0]! = u := hp3
        by_cases hg1 : 1 < w.length
        · by_cases h48 : u.toNat = 48
          · rw [if_pos ⟨hg1, h48⟩] at hfr
            have hk := hk2 5 hfr (by omega) (by omega) (a + w.length) (by omega)
            repeat (first | exact endA | refine wkA ?_ | refine opB (fun b => ?_) | refine opA (fun a' c' hc1 hc2 => ?_) | (apply GJ.and; exact rfl; intro hg) | (apply GJ.or; exact rfl; intro hg))
            try rw [hp4]
            repeat (first | exact endA | refine wkA ?_ | refine opB (fun b => ?_) | refine opA (fun a' c' hc1 hc2 => ?_) | (apply GJ.and; exact rfl; intro hg) | (apply GJ.or; exact rfl; intro hg))
            exact Wk.outS Sup.auto (.refl _) hk
          · rw [if_neg (fun h => h48 h.2)] at hfr
            have hk := hk1 _ _ _ hfr (by omega) hp2
            repeat (first | exact endA | refine wkA ?_ | refine opB (fun b => ?_) | refine opA (fun a' c' hc1 hc2 => ?_) | (apply GJ.and; exact rfl; intro hg) | (apply GJ.or; exact rfl; intro hg))
            try rw [hp4]
            repeat (first | exact endA | refine wkA ?_ | refine opB (fun b => ?_) | refine opA (fun a' c' hc1 hc2 => ?_) | (apply GJ.and; exact rfl; intro hg) | (apply GJ.or; exact rfl; intro hg))
            exact Wk.outS Sup.auto (.refl _) hk
        · rw [if_neg (fun h => hg1 h.1)] at hfr
          have hk := hk1 _ _ _ hfr (by omega) hp2
          repeat (first | exact endA | refine wkA ?_ | refine opB (fun b => ?_) | refine opA (fun a' c' hc1 hc2 => ?_) | (apply GJ.and; exact rfl; intro hg) | (apply GJ.or; exact rfl; intro hg))
          exact Wk.outS Sup.auto (.refl _) hk
    | false =>
      rw [if_neg (by simp)] at hfr
      by_cases h47 : u.toNat = 47
      · rw [if_pos h47] at hfr
        repeat (first | exact endA | refine wkA ?_ | refine opB (fun b => ?_) | refine opA (fun a' c' hc1 hc2 => ?_) | (apply GJ.and; exact rfl; intro hg) | (apply GJ.or; exact rfl; intro hg))
        refine CallOk.sup (own0 := .blk p 158 [str tx, .int .i64 (a : Int), o] :: .blk b 127 [.int .i64 0, .int .i64 0, str []] :: r) Sup.auto ?_
        refine pattern_ok hat hl (fun w hw hwl => ?_) (fun hw a' ha' => ?_)
        · rw [hw] at hfr
          have hk := hk1 _ _ _ hfr (by omega) (by omega)
          rw [show a + (w.length + 2) = a + w.length + 2 by omega] at hk
          repeat (first | exact endA | refine wkA ?_ | refine opB (fun b => ?_) | refine opA (fun a' c' hc1 hc2 => ?_) | (apply GJ.and; exact rfl; intro hg) | (apply GJ.or; exact rfl; intro hg))
          exact Wk.outS Sup.auto (.refl _) hk
        · rw [hw] at hfr
          have hk := hk2 5 hfr (by omega) (by omega) a' ha'
          repeat (first | exact endA | refine wkA ?_ | refine opB (fun b => ?_) | refine opA (fun a' c' hc1 hc2 => ?_) | (apply GJ.and; exact rfl; intro hg) | (apply GJ.or; exact rfl; intro hg))
          exact Wk.outS Sup.auto (.refl _) hk
      · rw [if_neg h47] at hfr
        repeat (first | exact endA | refine wkA ?_ | refine opB (fun b => ?_) | refine opA (fun a' c' hc1 hc2 => ?_) | (apply GJ.and; exact rfl; intro hg) | (apply GJ.or; exact rfl; intro hg))
        refine fields_ok hS (fun bf => ?_)
        have hsl := signs_len
        have hs14 : signsL.length = 14 := rfl
        have hnn : (∀ i, i < 14 → (signsL[i]!).isPrefixOf (tx.drop a) = false) → signsL.find? (·.isPrefixOf (tx.drop a)) = none := fun h => by
          refine find_none fun x hx => ?_
          obtain ⟨i, hi, rfl⟩ := List.getElem_of_mem hx
          have := h i hi
          rwa [getElem!_pos signsL i hi] at this
        have hff : ∀ j, j < 14 → (signsL[j]!).isPrefixOf (tx.drop a) = true → (∀ i, i < j → (signsL[i]!).isPrefixOf (tx.drop a) = false) → signsL.find? (·.isPrefixOf (tx.drop a)) = some signsL[j]! := fun j hj h1 h2 => find_at (by omega) h1 h2
        generalize signsL.find? (·.isPrefixOf (tx.drop a)) = fo at hfr hnn hff
        generalize signsL = sl at *
        have hml : (List.map str sl).length = 14 := by rw [List.length_map]; exact hs14
        repeat (first | exact endA | refine wkA ?_ | refine opB (fun b => ?_) | refine opA (fun a' c' hc1 hc2 => ?_) | (apply GJ.and; exact rfl; intro hg) | (apply GJ.or; exact rfl; intro hg))
        refine LoopOk.at (ι := Nat) Keep.auto (fun j => [(58, .int .i64 (j : Int))]) (fun j => .sl (some ⟨bf, 0, none⟩) 14 14 9 1 (sl.map str) :: .blk b 127 [.int .i64 0, .int .i64 0, str []] :: .blk p 158 [str tx, .int .i64 (a : Int), o] :: r) (fun j => j ≤ 14 ∧ ∀ i, i < j → (sl[i]!).isPrefixOf (tx.drop a) = false) (fun j => 14 - j) 0 ?_ Sub.auto Sup.auto ?_
        · exact ⟨Nat.zero_le _, fun i hi => absurd hi (by omega)⟩
        rintro j ⟨j1, j2⟩
        dsimp only [List.cons_append, List.nil_append] at j1 j2 ⊢
        by_cases hj : j < 14
        · have hsj := hsl j hj
          have hfj := hff j hj
          have hgm : (sl.map str)[j]? = some (str sl[j]!) := getMap (by omega)
          have hjj : sl[j]! = sl[j]! := rfl
          have hj2 : ∀ i, i < j + 1 → i ≠ j → (sl[i]!).isPrefixOf (tx.drop a) = false := fun i hi hne => j2 i (by omega)
          generalize hsv : sl[j]! = s at hsj hfj hgm
          have hpre : s.isPrefixOf (tx.drop a) = true → s.length ≤ tx.length - a := fun h => by
            have := (List.isPrefixOf_iff_prefix.1 h).length_le
            rwa [List.length_drop] at this
          have ej : sl[((j : Nat) : Int).toNat]! = s := by rw [Int.toNat_natCast]; exact hsv
          repeat (first | exact endA | refine wkA ?_ | refine opB (fun b => ?_) | refine opA (fun a' c' hc1 hc2 => ?_) | (apply GJ.and; exact rfl; intro hg) | (apply GJ.or; exact rfl; intro hg))
          rw [ej, Int.toNat_natCast a]
          refine prefix_ok (by rw [List.length_drop]; omega) (by omega) ?_
          obtain ⟨q, hq⟩ : ∃ q, s.isPrefixOf (tx.drop a) = q := ⟨_, rfl⟩
          rw [hq] at hfj hpre ⊢
          cases q with
          | true =>
            have hpl := hpre rfl
            have hk := hk1 4 s s.length (by rw [hfr, hfj rfl j2]) (by omega) (by omega)
            repeat (first | exact endA | refine wkA ?_ | refine opB (fun b => ?_) | refine opA (fun a' c' hc1 hc2 => ?_) | (apply GJ.and; exact rfl; intro hg) | (apply GJ.or; exact rfl; intro hg))
            exact Wk.outS Sup.auto (.refl _) hk
          | false =>
            repeat (first | exact endA | refine wkA ?_ | refine opB (fun b => ?_) | refine opA (fun a' c' hc1 hc2 => ?_) | (apply GJ.and; exact rfl; intro hg) | (apply GJ.or; exact rfl; intro hg))
            refine Wk.id ⟨j + 1, ⟨rfl, ?_⟩, ?_, Sub.auto, Sup.auto⟩
            all_goals try dsimp only
            · refine ⟨by omega, fun i hi => ?_⟩
              by_cases hij : i = j
              · rw [hij, hsv, hq]
              · exact hj2 i hi hij
            · omega
        · have hk := hk2 100 (by rw [hfr, hnn (fun i hi => j2 i (by omega))]) (by omega) (by omega) a (by omega)
          repeat (first | exact endA | refine wkA ?_ | refine opB (fun b => ?_) | refine opA (fun a' c' hc1 hc2 => ?_) | (apply GJ.and; exact rfl; intro hg) | (apply GJ.or; exact rfl; intro hg))
          exact Wk.outS Sup.auto (.refl _) hk
end
end Go.Proofs.YtefipginoakecaaGreatDoor
end
section
/- Contracts of lex: Scan. -/
namespace Go.Proofs.YtefipginoakecaaGreatDoor
open Go Go.E
set_option linter.unusedVariables false
set_option linter.unusedSimpArgs false
set_option maxRecDepth 10000
structure TokD where
  kind : Nat
  a : Nat
  text : List UInt8
deriving DecidableEq
def TokD.v (t : TokD) : List Value := tokV t.kind t.a t.text
def toksV (l : List TokD) : List Value := l.flatMap TokD.v
theorem toksV_snoc (l : List TokD) (t : TokD) : toksV (l ++ [t]) = toksV l ++ t.v := by simp [toksV]
theorem toksV_drop : ∀ (l : List TokD) (i : Nat) (t : TokD), l[i]? = some t → ((toksV l).drop (i * 3)).take 3 = t.v
  | [], i, t, h => by simp at h
  | x :: l, 0, t, h => by simp at h; subst h; rfl
  | x :: l, i + 1, t, h => by
    rw [show (i + 1) * 3 = 3 + i * 3 by omega]
    show List.take 3 (List.drop (3 + i * 3) (x.v ++ toksV l)) = _
    rw [← List.drop_drop, List.drop_left' (by rfl)]
    exact toksV_drop l i t (by simpa using h)
def scanF : Nat → Nat → List TokD → List UInt8 → List TokD × Nat × Nat
  | 0, _, _, _ => ([], 0, 0)
  | k + 1, a, out, l => if l.drop (gapD false l) = [] then (out ++ [⟨5, a + gapD false l, []⟩], 0, 0)
    else if out.length = 8192 then ([], a + gapD false l, 2)
    else if (frontD (l.drop (gapD false l))).2.2.2 ≠ 0 then ([], a + gapD false l, (frontD (l.drop (gapD false l))).2.2.2)
    else scanF k (a + gapD false l + (frontD (l.drop (gapD false l))).2.2.1) (out ++ [⟨(frontD (l.drop (gapD false l))).1, a + gapD false l, (frontD (l.drop (gapD false l))).2.1⟩]) ((l.drop (gapD false l)).drop (frontD (l.drop (gapD false l))).2.2.1)
def scanD (tx : List UInt8) : List TokD × Nat × Nat := if 65536 < tx.length then ([], 0, 2) else scanF (tx.length + 1) 0 [] tx
def faultV (code a : Nat) : Value := .agg #[.int .i64 (code : Int), .int .i64 (a : Int)]
section
variable {ro : Ro} {own r : Chs} {K : Value → Ro → Chs → Prop} {g : Chunk → Chs}
set_option maxHeartbeats 4000000 in
theorem scan_ok {tx : List UInt8} (hS : SpOk ro) (hl : tx.length ≤ 100000)
    (hk : ∀ l a code a' c', scanD tx = (l, a, code) → l.length ≤ 8193 → code ≤ 1000 → a ≤ tx.length → l.length ≤ c' → c' ≤ maxLen → K (.tuple #[.slice a' l.length c', faultV code a]) ro (.sl a' l.length c' 127 3 (toksV l) :: own)) :
    CallOk Tryz.prog 73 #[str tx] ro own K := by
  refine CallOk.intro (args := [_]) (rs := [_, _]) T_ok Tryz.func73 Tryz.call73 rfl rfl (by kernel_rfl) rfl rfl ?_
  by_cases hbig : 65536 < tx.length
  · have hk := hk [] 0 2 none 0 (by rw [scanD, if_pos hbig]) (by simp) (by omega) (by omega) (by simp) (Nat.zero_le _)
    repeat (first | exact endA | refine wkA ?_ | refine opB (fun b => ?_) | refine opA (fun a' c' hc1 hc2 => ?_) | (apply GJ.and; exact rfl; intro hg) | (apply GJ.or; exact rfl; intro hg))
    exact Wk.outS (Sup.nilc Sup.auto) (.refl _) hk
  · have hsc : scanD tx = scanF (tx.length + 1) 0 [] tx := by rw [scanD, if_neg hbig]
    repeat (first | exact endA | refine wkA ?_ | refine opB (fun b => ?_) | refine opA (fun a' c' hc1 hc2 => ?_) | (apply GJ.and; exact rfl; intro hg) | (apply GJ.or; exact rfl; intro hg))
    obtain ⟨q, hq⟩ : ∃ q : Nat, q = b := ⟨_, rfl⟩
    subst hq
    obtain ⟨bf, hbf⟩ : ∃ x : Nat, x = b := ⟨_, rfl⟩
    subst hbf
    refine LoopOk.at (ι := Nat × Nat × List TokD × Option Addr × Nat) Keep.auto (fun (k, a, o, ad, cp) => []) (fun (k, a, o, ad, cp) => .sl ad o.length cp 127 3 (toksV o) :: .blk q 158 [str tx, .int .i64 (a : Int), .slice ad o.length cp] :: .blk bf 30 [.int .i64 0, .int .i64 0] :: own) (fun (k, a, o, ad, cp) => a ≤ tx.length ∧ o.length ≤ 8192 ∧ o.length ≤ cp ∧ cp ≤ maxLen ∧ tx.length - a < k ∧ scanF k a o (tx.drop a) = scanD tx) (fun (k, a, o, ad, cp) => tx.length + 1 - a) (tx.length + 1, 0, [], none, 0) ?_ Sub.auto (Sup.nilc Sup.auto) ?_
    · exact ⟨by omega, by simp, by simp, Nat.zero_le _, by omega, by rw [hsc]; rfl⟩
    rintro ⟨k, a, o, ad, cp⟩ ⟨i1, i2, i3, i4, i5, i6⟩
    dsimp only [List.cons_append, List.nil_append] at i1 i2 i3 i4 i5 i6 ⊢
    obtain ⟨k, rfl⟩ : ∃ j, k = j + 1 := ⟨k - 1, by omega⟩
    have hgl := gapD_le (tx.drop a) false
    rw [List.length_drop] at hgl
    rw [scanF] at i6
    have hdd : (tx.drop a).drop (gapD false (tx.drop a)) = tx.drop (a + gapD false (tx.drop a)) := by rw [List.drop_drop]
    rw [hdd] at i6
    repeat (first | exact endA | refine wkA ?_ | refine opB (fun b => ?_) | refine opA (fun a' c' hc1 hc2 => ?_) | (apply GJ.and; exact rfl; intro hg) | (apply GJ.or; exact rfl; intro hg))
    refine CallOk.sup (own0 := .blk q 158 [str tx, .int .i64 (a : Int), .slice ad o.length cp] :: .sl ad o.length cp 127 3 (toksV o) :: .blk bf 30 [.int .i64 0, .int .i64 0] :: own) Sup.auto ?_
    refine gap_ok i1 hl ?_
    obtain ⟨a2, ha2⟩ : ∃ a2, a + gapD false (tx.drop a) = a2 := ⟨_, rfl⟩
    rw [ha2] at i6 ⊢
    by_cases hend : a2 = tx.length
    · have h0 : tx.drop a2 = [] := List.drop_eq_nil_of_le (by omega)
      rw [if_pos h0] at i6
      have hk := hk (o ++ [⟨5, a2, []⟩]) 0 0
      repeat (first | exact endA | refine wkT ?_ | refine opB (fun b => ?_) | refine opA (fun a' c' hc1 hc2 => ?_) | (apply GJ.and; exact rfl; intro hg) | (apply GJ.or; exact rfl; intro hg))
      refine Bs.mk ⟨[.blk q 158 [str tx, .int .i64 (a2 : Int), .slice ad o.length cp]], Sup.auto, ?_⟩
      repeat (first | exact endA | refine wkU ?_ | (show QOk _ _ _ _ _ _ _; refine QOk.build rfl rfl Nf.auto ?_) | (show GJ _ _ _ _ _ _ _; first | with_reducible refine GJ.neF ?_ | with_reducible refine GJ.neT ?_) | (show Br _ _ _; with_reducible refine Br.ne ?_) | refine opB (fun b => ?_) | refine opA (fun a' c' hc1 hc2 => ?_) | (apply GJ.and; exact rfl; intro hg) | (apply GJ.or; exact rfl; intro hg))
      have hk := hk a' c' i6.symm (by simp; omega) (by omega) (by omega) (by simp; exact hc1) hc2
      rw [toksV_snoc, List.length_append] at hk
      exact Wk.outS Sup.auto (.refl _) hk
    · have h0 : tx.drop a2 ≠ [] := fun e => by
        have := congrArg List.length e
        rw [List.length_drop] at this
        simp at this
        omega
      rw [if_neg h0] at i6
      by_cases hmany : o.length = 8192
      · rw [if_pos hmany] at i6
        have hk := hk [] a2 2 none 0 i6.symm (by simp) (by omega) (by omega) (by simp) (Nat.zero_le _)
        repeat (first | exact endA | refine wkA ?_ | refine opB (fun b => ?_) | refine opA (fun a' c' hc1 hc2 => ?_) | (apply GJ.and; exact rfl; intro hg) | (apply GJ.or; exact rfl; intro hg))
        exact Wk.outS (Sup.nilc Sup.auto) (.refl _) hk
      · rw [if_neg hmany] at i6
        repeat (first | exact endA | refine wkA ?_ | refine opB (fun b => ?_) | refine opA (fun a' c' hc1 hc2 => ?_) | (apply GJ.and; exact rfl; intro hg) | (apply GJ.or; exact rfl; intro hg))
        refine CallOk.sup (own0 := .blk q 158 [str tx, .int .i64 (a2 : Int), .slice ad o.length cp] :: .sl ad o.length cp 127 3 (toksV o) :: .blk bf 30 [.int .i64 0, .int .i64 0] :: own) Sup.auto ?_
        refine next_ok hS (by omega) hl (fun kd w n hf hn1 hn2 => ?_) (fun code hf hc1 hc2 a3 ha3 => ?_)
        · rw [hf] at i6
          rw [if_neg (by simp)] at i6
          dsimp only at i6
          rw [List.drop_drop] at i6
          repeat (first | exact endA | refine wkT ?_ | refine opB (fun b => ?_) | refine opA (fun a' c' hc1 hc2 => ?_) | (apply GJ.and; exact rfl; intro hg) | (apply GJ.or; exact rfl; intro hg))
          refine Bs.mk ⟨[.blk b 127 (tokV kd 0 w), .blk q 158 [str tx, .int .i64 ((a2 + n : Nat) : Int), .slice ad o.length cp]], Sup.auto, ?_⟩
          repeat (first | exact endA | refine wkU ?_ | (show QOk _ _ _ _ _ _ _; refine QOk.build rfl rfl Nf.auto ?_) | (show GJ _ _ _ _ _ _ _; first | with_reducible refine GJ.neF ?_ | with_reducible refine GJ.neT ?_) | (show Br _ _ _; with_reducible refine Br.ne ?_) | refine opB (fun b => ?_) | refine opA (fun a' c' hc1 hc2 => ?_) | (apply GJ.and; exact rfl; intro hg) | (apply GJ.or; exact rfl; intro hg))
          rw [show o.length + 1 = (o ++ [(⟨kd, a2, w⟩ : TokD)]).length by simp] at hc1 ⊢
          rw [show flat [.agg #[.int .i64 (kd : Int), .int .i64 (a2 : Int), str w]] = TokD.v ⟨kd, a2, w⟩ from rfl, ← toksV_snoc]
          repeat (first | exact endA | refine wkT ?_ | refine opB (fun b => ?_) | refine opA (fun a' c' hc1 hc2 => ?_) | (apply GJ.and; exact rfl; intro hg) | (apply GJ.or; exact rfl; intro hg))
          refine Wk.id ⟨(k, a2 + n, o ++ [⟨kd, a2, w⟩], a', c'), ⟨rfl, ?_⟩, ?_, Sub.auto, Sup.auto⟩
          all_goals try dsimp only
          · exact ⟨hn1, by simp; omega, hc1, hc2, by omega, i6⟩
          · omega
        · rw [hf] at i6
          rw [if_pos hc1] at i6
          have hk := hk [] a2 code none 0 i6.symm (by simp) hc2 (by omega) (by simp) (Nat.zero_le _)
          repeat (first | exact endA | refine wkA ?_ | refine opB (fun b => ?_) | refine opA (fun a' c' hc1 hc2 => ?_) | (apply GJ.and; exact rfl; intro hg) | (apply GJ.or; exact rfl; intro hg))
          exact Wk.outS (Sup.nilc Sup.auto) (.refl _) hk
end
end Go.Proofs.YtefipginoakecaaGreatDoor
end
section
/- Contracts: a Builder grows; strings.Join with a blank; lex: Show, Join. -/
namespace Go.Proofs.YtefipginoakecaaGreatDoor
open Go Go.E
set_option linter.unusedVariables false
set_option linter.unusedSimpArgs false
set_option maxRecDepth 10000
def showD (k : Nat) (x : List UInt8) : List UInt8 := if k = 3 then 47 :: (x ++ [47]) else x
section
variable {ro : Ro} {own r : Chs} {K : Value → Ro → Chs → Prop} {g : Chunk → Chs}
end
end Go.Proofs.YtefipginoakecaaGreatDoor
end
section
/- The plain laws of the scanner: nothing is lost; there and back; two texts. No program. -/
namespace Go.Proofs.YtefipginoakecaaGreatDoor
open Go Go.E
set_option linter.unusedVariables false
set_option linter.unusedSimpArgs false
set_option maxRecDepth 10000
theorem head_nil {p : UInt8 → Bool} {y : List UInt8} (h : ∀ u, y.head? = some u → p u = false) : y.takeWhile p = [] := by
  cases y with
  | nil => rfl
  | cons u y => rw [List.takeWhile_cons, h u rfl]; rfl
theorem tw_all {p : UInt8 → Bool} (l : List UInt8) : ∀ u ∈ l.takeWhile p, p u = true := fun u hu => by
  induction l with
  | nil => simp at hu
  | cons x l ih =>
    rw [List.takeWhile_cons] at hu
    split at hu
    · rcases List.mem_cons.1 hu with rfl | h
      · assumption
      · exact ih h
    · simp at hu
theorem tw_app {p : UInt8 → Bool} {w y : List UInt8} (h : ∀ u ∈ w, p u = true) (hy : ∀ u, y.head? = some u → p u = false) : (w ++ y).takeWhile p = w := by
  rw [List.takeWhile_append_of_pos h, head_nil hy, List.append_nil]
theorem tw_drop {p : UInt8 → Bool} (l : List UInt8) : l.takeWhile p ++ l.drop (l.takeWhile p).length = l := by
  induction l with
  | nil => rfl
  | cons x l ih =>
    rw [List.takeWhile_cons]
    split
    · rw [List.length_cons, List.drop_succ_cons, List.cons_append, ih]
    · rfl
/-- What a token's text is read as, alone and before a blank. -/
structure Front (l : List UInt8) (k : Nat) (w : List UInt8) (n : Nat) : Prop where
  len : n = (showD k w).length
  pos : 1 ≤ n
  five : k ≠ 5
  app : showD k w ++ l.drop n = l
  again : ∀ y : List UInt8, (∀ u, y.head? = some u → u.toNat = 32) → frontD (showD k w ++ y) = (k, w, n, 0)
  gap : ∀ y : List UInt8, gapD false (showD k w ++ y) = 0
theorem gap_zero {c : UInt8} (r : List UInt8) (h1 : c.toNat ≠ 10) (h2 : c.toNat ≠ 32) (h3 : c.toNat ≠ 9) (h4 : c.toNat ≠ 13) (h5 : c.toNat ≠ 35) : gapD false (c :: r) = 0 := by
  rw [gapD, if_neg h1, if_neg (by simp [h2, h3, h4]), if_neg h5]
theorem letB_rng {u : UInt8} (h : letB u = true) : 65 ≤ u.toNat := by
  unfold letB at h
  simp at h
  omega
theorem digB_rng {u : UInt8} (h : digB u = true) : 48 ≤ u.toNat := by
  unfold digB at h
  simp at h
  omega
theorem word_32 {u : UInt8} (h : u.toNat = 32 ∨ u.toNat = 10) : wordB u = false := by
  unfold wordB letB digB
  simp
  omega
theorem dig_32 {u : UInt8} (h : u.toNat = 32 ∨ u.toNat = 10) : digB u = false := by
  unfold digB
  simp
  omega
theorem sign_front : ∀ s ∈ signsL, ∀ y, frontD (s ++ y) = (4, s, s.length, 0) ∧ gapD false (s ++ y) = 0 := by
  intro s hs y
  simp only [signsL, List.mem_cons, List.not_mem_nil, or_false] at hs
  rcases hs with rfl | rfl | rfl | rfl | rfl | rfl | rfl | rfl | rfl | rfl | rfl | rfl | rfl | rfl <;> exact ⟨rfl, gap_zero _ (by decide) (by decide) (by decide) (by decide) (by decide)⟩
theorem frontOf {l : List UInt8} {k : Nat} {w : List UInt8} {n : Nat} (h : frontD l = (k, w, n, 0)) : Front l k w n := by
  cases l with
  | nil => simp [frontD] at h
  | cons c r =>
    rw [frontD] at h
    by_cases h1 : letB c = true
    · rw [if_pos h1] at h
      split at h
      · simp at h
      rename_i h24
      obtain ⟨rfl, hw, hn⟩ : 1 = k ∧ (c :: r).takeWhile wordB = w ∧ ((c :: r).takeWhile wordB).length = n := by simpa using h
      rw [hw] at hn h24
      have hs : showD 1 w = w := rfl
      have hc : wordB c = true := by unfold wordB; rw [h1]; rfl
      have hall : ∀ u ∈ w, wordB u = true := fun u hu => tw_all _ u (hw ▸ hu)
      obtain ⟨w', hw'⟩ : ∃ w', w = c :: w' := by rw [← hw, List.takeWhile_cons, hc]; exact ⟨_, rfl⟩
      have hr := letB_rng h1
      refine ⟨by rw [hs, hn], by rw [← hn, hw']; simp, by decide, ?_, fun y hy => ?_, fun y => ?_⟩
      · rw [hs, ← hn, ← hw]; exact tw_drop _
      · rw [hs]
        have ht : (w ++ y).takeWhile wordB = w := tw_app hall (fun u hu => word_32 (.inl (hy u hu)))
        have : frontD (w ++ y) = if letB c = true then (if 24 < ((w ++ y).takeWhile wordB).length then (0, [], 0, 2) else (1, (w ++ y).takeWhile wordB, ((w ++ y).takeWhile wordB).length, 0)) else frontD (w ++ y) := by
          rw [if_pos h1, hw', List.cons_append, frontD, if_pos h1]
        rw [this, if_pos h1, ht, if_neg h24, hn]
      · rw [hs, hw', List.cons_append]
        exact gap_zero _ (by omega) (by omega) (by omega) (by omega) (by omega)
    rw [if_neg h1] at h
    by_cases h2 : digB c = true
    · rw [if_pos h2] at h
      split at h
      · simp at h
      rename_i h20
      split at h
      · simp at h
      rename_i h0
      obtain ⟨rfl, hw, hn⟩ : 2 = k ∧ (c :: r).takeWhile digB = w ∧ ((c :: r).takeWhile digB).length = n := by simpa using h
      rw [hw] at hn h20 h0
      have hs : showD 2 w = w := rfl
      have hall : ∀ u ∈ w, digB u = true := fun u hu => tw_all _ u (hw ▸ hu)
      obtain ⟨w', hw'⟩ : ∃ w', w = c :: w' := by rw [← hw, List.takeWhile_cons, h2]; exact ⟨_, rfl⟩
      have hr := digB_rng h2
      have hr2 : c.toNat ≤ 57 := by unfold digB at h2; simp at h2; omega
      refine ⟨by rw [hs, hn], by rw [← hn, hw']; simp, by decide, ?_, fun y hy => ?_, fun y => ?_⟩
      · rw [hs, ← hn, ← hw]; exact tw_drop _
      · rw [hs]
        have ht : (w ++ y).takeWhile digB = w := tw_app hall (fun u hu => dig_32 (.inl (hy u hu)))
        have : frontD (w ++ y) = if 20 < ((w ++ y).takeWhile digB).length then (0, [], 0, 2) else if 1 < ((w ++ y).takeWhile digB).length ∧ c.toNat = 48 then (0, [], 0, 5) else (2, (w ++ y).takeWhile digB, ((w ++ y).takeWhile digB).length, 0) := by
          rw [hw', List.cons_append, frontD, if_neg h1, if_pos h2]
        rw [this, ht, if_neg h20, if_neg h0, hn]
      · rw [hs, hw', List.cons_append]
        exact gap_zero _ (by omega) (by omega) (by omega) (by omega) (by omega)
    rw [if_neg h2] at h
    by_cases h3 : c.toNat = 47
    · rw [if_pos h3] at h
      split at h
      · simp at h
      rename_i v hv
      obtain ⟨rfl, rfl, hn⟩ : 3 = k ∧ v = w ∧ v.length + 2 = n := by simpa using h
      have hc : c = 47 := UInt8.toNat_inj.1 (by simpa using h3)
      subst hc
      have hs : showD 3 v = 47 :: (v ++ [47]) := rfl
      unfold patD at hv
      split at hv
      · simp at hv
      rename_i x r' hr'
      split at hv
      · rename_i hx
        have hx : x = 47 := UInt8.toNat_inj.1 (by simpa using hx)
        subst hx
        have hv : r.takeWhile patB = v := by simpa using hv
        rw [hv] at hr'
        have hr : r = v ++ 47 :: r' := by rw [← hr', ← hv]; exact (tw_drop r).symm
        have hall : ∀ u ∈ v, patB u = true := fun u hu => tw_all _ u (hv ▸ hu)
        refine ⟨by rw [hs, ← hn]; simp, by omega, by decide, ?_, fun y hy => ?_, fun y => ?_⟩
        · rw [hs, hr, ← hn, List.drop_succ_cons]
          rw [show v ++ 47 :: r' = (v ++ [47]) ++ r' by simp, List.drop_left' (by simp)]
          simp
        · rw [hs]
          have hp : patD (v ++ 47 :: y) = some v := by
            have ht : (v ++ 47 :: y).takeWhile patB = v := tw_app hall (fun u hu => by
              have : u = 47 := by simpa using hu.symm
              subst this; rfl)
            unfold patD
            rw [ht, List.drop_left]
            rfl
          rw [List.cons_append, List.append_assoc, frontD, if_neg h1, if_neg h2, if_pos h3]
          rw [show v ++ ([47] ++ y) = v ++ 47 :: y from rfl, hp, ← hn]
        · rw [hs, List.cons_append]
          exact gap_zero _ (by decide) (by decide) (by decide) (by decide) (by decide)
      · simp at hv
    rw [if_neg h3] at h
    split at h
    · rename_i s hf
      obtain ⟨rfl, rfl, hn⟩ : 4 = k ∧ s = w ∧ s.length = n := by simpa using h
      have hm := List.mem_of_find?_eq_some hf
      have hp := List.find?_some hf
      have hs : showD 4 s = s := rfl
      have h1 : 1 ≤ s.length := by
        have : ∀ s ∈ signsL, 1 ≤ s.length := by decide
        exact this s hm
      refine ⟨by rw [hs, hn], by omega, by decide, ?_, fun y _ => by rw [hs, ← hn]; exact (sign_front s hm y).1, fun y => (sign_front s hm y).2⟩
      rw [hs, ← hn]
      have := List.isPrefixOf_iff_prefix.1 hp
      obtain ⟨t, ht⟩ := this
      rw [← ht, List.drop_left]
    · simp at h
/-- The tokens of a text, each where it stands, what is between them is no token. -/
def WholeD : Nat → List UInt8 → List TokD → Prop
  | _, _, [] => False
  | a, l, t :: ts => t.a = a + gapD false l ∧ ((t.kind = 5 ∧ t.text = [] ∧ ts = [] ∧ l.drop (gapD false l) = []) ∨
     ∃ n, l.drop (gapD false l) ≠ [] ∧ frontD (l.drop (gapD false l)) = (t.kind, t.text, n, 0) ∧ WholeD (t.a + n) ((l.drop (gapD false l)).drop n) ts)
theorem scan_whole : ∀ (k a : Nat) (o : List TokD) (l : List UInt8) (r : List TokD) (p : Nat), l.length < k → scanF k a o l = (r, p, 0) → ∃ ts, r = o ++ ts ∧ WholeD a l ts
  | 0, a, o, l, r, p, h, _ => absurd h (Nat.not_lt_zero _)
  | k + 1, a, o, l, r, p, hk, h => by
    rw [scanF] at h
    split at h
    · rename_i h0
      have : o ++ [⟨5, a + gapD false l, []⟩] = r := congrArg (·.1) h
      exact ⟨_, this.symm, rfl, .inl ⟨rfl, rfl, rfl, h0⟩⟩
    rename_i h0
    split at h
    · simp at h
    split at h
    · rename_i hc
      have : (frontD (l.drop (gapD false l))).2.2.2 = 0 := by have := congrArg (·.2.2) h; simpa using this
      exact absurd this hc
    rename_i hc
    obtain ⟨kd, w, n, c, hf⟩ : ∃ kd w n c, frontD (l.drop (gapD false l)) = (kd, w, n, c) := ⟨_, _, _, _, rfl⟩
    rw [hf] at h hc
    have hc : c = 0 := by simpa using hc
    subst hc
    dsimp only at h
    have hF := frontOf hf
    have hl : ((l.drop (gapD false l)).drop n).length < k := by
      have := hF.pos
      have h1 : (l.drop (gapD false l)).length ≠ 0 := fun e => h0 (List.eq_nil_of_length_eq_zero e)
      simp only [List.length_drop] at h1 ⊢
      omega
    obtain ⟨ts, e, hw⟩ := scan_whole k _ _ _ r p hl h
    exact ⟨⟨kd, a + gapD false l, w⟩ :: ts, by rw [e]; simp, rfl, .inr ⟨n, h0, hf, hw⟩⟩
end Go.Proofs.YtefipginoakecaaGreatDoor
end
section
/- Contracts of package octet, second part: numbers, a writer. -/
namespace Go.Proofs.YtefipginoakecaaGreatDoor
open Go Go.E
set_option linter.unusedVariables false
set_option maxRecDepth 10000
section
variable {ro : Ro} {own : Chs} {K : Value → Ro → Chs → Prop} {f : Chunk → Chs}
theorem width_ok {n : Int} (hk : K (.bool (decide (1 ≤ n ∧ n ≤ 8))) ro own) : CallOk Tryz.prog 96 #[.int .i64 n] ro own K := by
  refine CallOk.intro (args := [_]) (rs := [_]) T_ok Tryz.func96 Tryz.call96 rfl rfl (by kernel_rfl) rfl rfl ?_
  repeat (first | exact endA | refine wkG ?_ | refine opB (fun b => ?_) | refine opA (fun a' c' hc1 hc2 => ?_) | (show GJ _ _ _ _ _ _ _; first | (apply GJ.and; exact rfl; intro hg) | (apply GJ.or; exact rfl; intro hg) | refine GJ.t omAuto ?_ | refine GJ.f omAuto ?_ | refine GJ.ft omAuto ?_ | refine GJ.ff omAuto ?_))
  refine Wk.val hk (congrArg Value.bool ?_)
  simp
def mostN (n : Int) : Nat := if 1 ≤ n ∧ n ≤ 8 then 2 ^ (8 * n.toNat) - 1 else 0
theorem most_ok {n : Int} (hk : K (.int .u64 (mostN n)) ro own) : CallOk Tryz.prog 70 #[.int .i64 n] ro own K := by
  refine CallOk.intro (args := [_]) (rs := [_]) T_ok Tryz.func70 Tryz.call70 rfl rfl (by kernel_rfl) rfl rfl ?_
  repeat (first | exact endA | refine wkG ?_ | refine opB (fun b => ?_) | refine opA (fun a' c' hc1 hc2 => ?_) | (show GJ _ _ _ _ _ _ _; first | (apply GJ.and; exact rfl; intro hg) | (apply GJ.or; exact rfl; intro hg) | refine GJ.t omAuto ?_ | refine GJ.f omAuto ?_ | refine GJ.ft omAuto ?_ | refine GJ.ff omAuto ?_))
  refine width_ok ?_
  repeat (first | exact endA | refine wkG ?_ | refine opB (fun b => ?_) | refine opA (fun a' c' hc1 hc2 => ?_) | (show GJ _ _ _ _ _ _ _; first | (apply GJ.and; exact rfl; intro hg) | (apply GJ.or; exact rfl; intro hg) | refine GJ.t omAuto ?_ | refine GJ.f omAuto ?_ | refine GJ.ft omAuto ?_ | refine GJ.ff omAuto ?_))
  refine Br.cases (fun hc => ?_) (fun hc => ?_)
  · repeat (first | exact endA | refine wkG ?_ | refine opB (fun b => ?_) | refine opA (fun a' c' hc1 hc2 => ?_) | (show GJ _ _ _ _ _ _ _; first | (apply GJ.and; exact rfl; intro hg) | (apply GJ.or; exact rfl; intro hg) | refine GJ.t omAuto ?_ | refine GJ.f omAuto ?_ | refine GJ.ft omAuto ?_ | refine GJ.ff omAuto ?_))
    refine Wk.val hk (congrArg (Value.int .u64) ?_)
    have : ¬ (1 ≤ n ∧ n ≤ 8) := by simpa using hc
    simp [mostN, this]
  · have hc : 1 ≤ n ∧ n ≤ 8 := by simpa using hc
    repeat (first | exact endA | refine wkG ?_ | refine opB (fun b => ?_) | refine opA (fun a' c' hc1 hc2 => ?_) | (show GJ _ _ _ _ _ _ _; first | (apply GJ.and; exact rfl; intro hg) | (apply GJ.or; exact rfl; intro hg) | refine GJ.t omAuto ?_ | refine GJ.f omAuto ?_ | refine GJ.ft omAuto ?_ | refine GJ.ff omAuto ?_))
    refine Wk.val hk (congrArg (Value.int .u64) ?_)
    obtain ⟨m, rfl⟩ := Int.eq_ofNat_of_zero_le (show 0 ≤ n by omega)
    simp only [mostN, hc, and_self, if_true]
    rcases (show m = 1 ∨ m = 2 ∨ m = 3 ∨ m = 4 ∨ m = 5 ∨ m = 6 ∨ m = 7 ∨ m = 8 by omega) with h | h | h | h | h | h | h | h <;> subst h <;> decide
end
end Go.Proofs.YtefipginoakecaaGreatDoor
end
section
/- Contracts of slices: clones. -/
namespace Go.Proofs.YtefipginoakecaaGreatDoor
open Go Go.E
set_option linter.unusedVariables false
set_option maxRecDepth 10000
section
variable {ro : Ro} {own r : Chs} {K : Value → Ro → Chs → Prop} {g : Chunk → Chs}
theorem cloneI_ok {a : Option Addr} {n c : Nat} {cs : List Value} (hr : Rs ro a n c 1 cs) (h1 : ∀ u ∈ cs, u.oneCell' = true) (hn : n ≤ 100000000) (hk : ∀ a' c', n ≤ c' → c' ≤ maxLen → K (.slice a' n c') ro (.sl a' n c' 3 1 cs :: own)) :
    CallOk Tryz.prog 65 #[.slice a n c] ro own K := by
  have hln := hr.len
  have hle := hr.le
  refine CallOk.given (fun hsat => ?_)
  refine CallOk.intro (args := [_]) (rs := [_]) T_ok Tryz.func65 Tryz.call65 rfl rfl (by kernel_rfl) rfl rfl ?_
  repeat (first | exact endA | refine wkG ?_ | refine opB (fun b => ?_) | refine opA (fun a' c' hc1 hc2 => ?_) | (show GJ _ _ _ _ _ _ _; first | (apply GJ.and; exact rfl; intro hg) | (apply GJ.or; exact rfl; intro hg) | refine GJ.t omAuto ?_ | refine GJ.f omAuto ?_ | refine GJ.ft omAuto ?_ | refine GJ.ff omAuto ?_))
  refine Br.cases (fun hc => ?_) (fun hc => ?_)
  · subst hc
    have hn0 := hr.nilN hsat
    subst hn0
    obtain rfl : cs = [] := List.eq_nil_of_length_eq_zero (by omega)
    repeat (first | exact endA | refine wkG ?_ | refine opB (fun b => ?_) | refine opA (fun a' c' hc1 hc2 => ?_) | (show GJ _ _ _ _ _ _ _; first | (apply GJ.and; exact rfl; intro hg) | (apply GJ.or; exact rfl; intro hg) | refine GJ.t omAuto ?_ | refine GJ.f omAuto ?_ | refine GJ.ft omAuto ?_ | refine GJ.ff omAuto ?_))
    exact Wk.outS (Sup.nilc (Sup.all _)) (.refl _) (hk none 0 (Nat.le_refl _) (Nat.zero_le _))
  · repeat (first | exact endA | refine wkG ?_ | refine opB (fun b => ?_) | refine opA (fun a' c' hc1 hc2 => ?_) | (show GJ _ _ _ _ _ _ _; first | (apply GJ.and; exact rfl; intro hg) | (apply GJ.or; exact rfl; intro hg) | refine GJ.t omAuto ?_ | refine GJ.f omAuto ?_ | refine GJ.ft omAuto ?_ | refine GJ.ff omAuto ?_))
    exact Wk.id (hk _ _ (by omega) (by omega))
theorem cloneB_ok {a : Option Addr} {n c : Nat} {cs : List Value} (hr : Rs ro a n c 1 cs) (h1 : ∀ u ∈ cs, u.oneCell' = true) (hn : n ≤ 100000000) (hk : ∀ a' c', n ≤ c' → c' ≤ maxLen → K (.slice a' n c') ro (.sl a' n c' 4 1 cs :: own)) :
    CallOk Tryz.prog 165 #[.slice a n c] ro own K := by
  have hln := hr.len
  have hle := hr.le
  refine CallOk.given (fun hsat => ?_)
  refine CallOk.intro (args := [_]) (rs := [_]) T_ok Tryz.func165 Tryz.call165 rfl rfl (by kernel_rfl) rfl rfl ?_
  repeat (first | exact endA | refine wkG ?_ | refine opB (fun b => ?_) | refine opA (fun a' c' hc1 hc2 => ?_) | (show GJ _ _ _ _ _ _ _; first | (apply GJ.and; exact rfl; intro hg) | (apply GJ.or; exact rfl; intro hg) | refine GJ.t omAuto ?_ | refine GJ.f omAuto ?_ | refine GJ.ft omAuto ?_ | refine GJ.ff omAuto ?_))
  refine Br.cases (fun hc => ?_) (fun hc => ?_)
  · subst hc
    have hn0 := hr.nilN hsat
    subst hn0
    obtain rfl : cs = [] := List.eq_nil_of_length_eq_zero (by omega)
    repeat (first | exact endA | refine wkG ?_ | refine opB (fun b => ?_) | refine opA (fun a' c' hc1 hc2 => ?_) | (show GJ _ _ _ _ _ _ _; first | (apply GJ.and; exact rfl; intro hg) | (apply GJ.or; exact rfl; intro hg) | refine GJ.t omAuto ?_ | refine GJ.f omAuto ?_ | refine GJ.ft omAuto ?_ | refine GJ.ff omAuto ?_))
    exact Wk.outS (Sup.nilc (Sup.all _)) (.refl _) (hk none 0 (Nat.le_refl _) (Nat.zero_le _))
  · repeat (first | exact endA | refine wkG ?_ | refine opB (fun b => ?_) | refine opA (fun a' c' hc1 hc2 => ?_) | (show GJ _ _ _ _ _ _ _; first | (apply GJ.and; exact rfl; intro hg) | (apply GJ.or; exact rfl; intro hg) | refine GJ.t omAuto ?_ | refine GJ.f omAuto ?_ | refine GJ.ft omAuto ?_ | refine GJ.ff omAuto ?_))
    exact Wk.id (hk _ _ (by omega) (by omega))
theorem cloneF_ok {a : Option Addr} {n c : Nat} {cs : List Value} (hr : Rs ro a n c 5 cs) (h1 : ∀ u ∈ cs, u.oneCell' = true) (hn : n ≤ 100000000) (hk : ∀ a' c', n ≤ c' → c' ≤ maxLen → K (.slice a' n c') ro (.sl a' n c' 56 5 cs :: own)) :
    CallOk Tryz.prog 167 #[.slice a n c] ro own K := by
  have hln := hr.len
  have hle := hr.le
  refine CallOk.given (fun hsat => ?_)
  refine CallOk.intro (args := [_]) (rs := [_]) T_ok Tryz.func167 Tryz.call167 rfl rfl (by kernel_rfl) rfl rfl ?_
  repeat (first | exact endA | refine wkG ?_ | refine opB (fun b => ?_) | refine opA (fun a' c' hc1 hc2 => ?_) | (show GJ _ _ _ _ _ _ _; first | (apply GJ.and; exact rfl; intro hg) | (apply GJ.or; exact rfl; intro hg) | refine GJ.t omAuto ?_ | refine GJ.f omAuto ?_ | refine GJ.ft omAuto ?_ | refine GJ.ff omAuto ?_))
  refine Br.cases (fun hc => ?_) (fun hc => ?_)
  · subst hc
    have hn0 := hr.nilN hsat
    subst hn0
    obtain rfl : cs = [] := List.eq_nil_of_length_eq_zero (by omega)
    repeat (first | exact endA | refine wkG ?_ | refine opB (fun b => ?_) | refine opA (fun a' c' hc1 hc2 => ?_) | (show GJ _ _ _ _ _ _ _; first | (apply GJ.and; exact rfl; intro hg) | (apply GJ.or; exact rfl; intro hg) | refine GJ.t omAuto ?_ | refine GJ.f omAuto ?_ | refine GJ.ft omAuto ?_ | refine GJ.ff omAuto ?_))
    exact Wk.outS (Sup.nilc (Sup.all _)) (.refl _) (hk none 0 (Nat.le_refl _) (Nat.zero_le _))
  · repeat (first | exact endA | refine wkG ?_ | refine opB (fun b => ?_) | refine opA (fun a' c' hc1 hc2 => ?_) | (show GJ _ _ _ _ _ _ _; first | (apply GJ.and; exact rfl; intro hg) | (apply GJ.or; exact rfl; intro hg) | refine GJ.t omAuto ?_ | refine GJ.f omAuto ?_ | refine GJ.ft omAuto ?_ | refine GJ.ff omAuto ?_))
    exact Wk.id (hk _ _ (by omega) (by omega))
theorem cloneC_ok {a : Option Addr} {n c : Nat} {cs : List Value} (hr : Rs ro a n c 2 cs) (h1 : ∀ u ∈ cs, u.oneCell' = true) (hn : n ≤ 100000000) (hk : ∀ a' c', n ≤ c' → c' ≤ maxLen → K (.slice a' n c') ro (.sl a' n c' 113 2 cs :: own)) :
    CallOk Tryz.prog 169 #[.slice a n c] ro own K := by
  have hln := hr.len
  have hle := hr.le
  refine CallOk.given (fun hsat => ?_)
  refine CallOk.intro (args := [_]) (rs := [_]) T_ok Tryz.func169 Tryz.call169 rfl rfl (by kernel_rfl) rfl rfl ?_
  repeat (first | exact endA | refine wkG ?_ | refine opB (fun b => ?_) | refine opA (fun a' c' hc1 hc2 => ?_) | (show GJ _ _ _ _ _ _ _; first | (apply GJ.and; exact rfl; intro hg) | (apply GJ.or; exact rfl; intro hg) | refine GJ.t omAuto ?_ | refine GJ.f omAuto ?_ | refine GJ.ft omAuto ?_ | refine GJ.ff omAuto ?_))
  refine Br.cases (fun hc => ?_) (fun hc => ?_)
  · subst hc
    have hn0 := hr.nilN hsat
    subst hn0
    obtain rfl : cs = [] := List.eq_nil_of_length_eq_zero (by omega)
    repeat (first | exact endA | refine wkG ?_ | refine opB (fun b => ?_) | refine opA (fun a' c' hc1 hc2 => ?_) | (show GJ _ _ _ _ _ _ _; first | (apply GJ.and; exact rfl; intro hg) | (apply GJ.or; exact rfl; intro hg) | refine GJ.t omAuto ?_ | refine GJ.f omAuto ?_ | refine GJ.ft omAuto ?_ | refine GJ.ff omAuto ?_))
    exact Wk.outS (Sup.nilc (Sup.all _)) (.refl _) (hk none 0 (Nat.le_refl _) (Nat.zero_le _))
  · repeat (first | exact endA | refine wkG ?_ | refine opB (fun b => ?_) | refine opA (fun a' c' hc1 hc2 => ?_) | (show GJ _ _ _ _ _ _ _; first | (apply GJ.and; exact rfl; intro hg) | (apply GJ.or; exact rfl; intro hg) | refine GJ.t omAuto ?_ | refine GJ.f omAuto ?_ | refine GJ.ft omAuto ?_ | refine GJ.ff omAuto ?_))
    exact Wk.id (hk _ _ (by omega) (by omega))
theorem cloneD_ok {a : Option Addr} {n c : Nat} {cs : List Value} (hr : Rs ro a n c 2 cs) (h1 : ∀ u ∈ cs, u.oneCell' = true) (hn : n ≤ 100000000) (hk : ∀ a' c', n ≤ c' → c' ≤ maxLen → K (.slice a' n c') ro (.sl a' n c' 46 2 cs :: own)) :
    CallOk Tryz.prog 128 #[.slice a n c] ro own K := by
  have hln := hr.len
  have hle := hr.le
  refine CallOk.given (fun hsat => ?_)
  refine CallOk.intro (args := [_]) (rs := [_]) T_ok Tryz.func128 Tryz.call128 rfl rfl (by kernel_rfl) rfl rfl ?_
  repeat (first | exact endA | refine wkG ?_ | refine opB (fun b => ?_) | refine opA (fun a' c' hc1 hc2 => ?_) | (show GJ _ _ _ _ _ _ _; first | (apply GJ.and; exact rfl; intro hg) | (apply GJ.or; exact rfl; intro hg) | refine GJ.t omAuto ?_ | refine GJ.f omAuto ?_ | refine GJ.ft omAuto ?_ | refine GJ.ff omAuto ?_))
  refine Br.cases (fun hc => ?_) (fun hc => ?_)
  · subst hc
    have hn0 := hr.nilN hsat
    subst hn0
    obtain rfl : cs = [] := List.eq_nil_of_length_eq_zero (by omega)
    repeat (first | exact endA | refine wkG ?_ | refine opB (fun b => ?_) | refine opA (fun a' c' hc1 hc2 => ?_) | (show GJ _ _ _ _ _ _ _; first | (apply GJ.and; exact rfl; intro hg) | (apply GJ.or; exact rfl; intro hg) | refine GJ.t omAuto ?_ | refine GJ.f omAuto ?_ | refine GJ.ft omAuto ?_ | refine GJ.ff omAuto ?_))
    exact Wk.outS (Sup.nilc (Sup.all _)) (.refl _) (hk none 0 (Nat.le_refl _) (Nat.zero_le _))
  · repeat (first | exact endA | refine wkG ?_ | refine opB (fun b => ?_) | refine opA (fun a' c' hc1 hc2 => ?_) | (show GJ _ _ _ _ _ _ _; first | (apply GJ.and; exact rfl; intro hg) | (apply GJ.or; exact rfl; intro hg) | refine GJ.t omAuto ?_ | refine GJ.f omAuto ?_ | refine GJ.ft omAuto ?_ | refine GJ.ff omAuto ?_))
    exact Wk.id (hk _ _ (by omega) (by omega))
end
end Go.Proofs.YtefipginoakecaaGreatDoor
end
section
/- Specifications as data, and how they lie in memory. Contracts of Kids, Number, Most. -/
namespace Go.Proofs.YtefipginoakecaaGreatDoor
open Go Go.E
set_option linter.unusedVariables false
set_option maxRecDepth 10000
structure FieldD where
  name : List UInt8
  type : Int
  derive : Int
  of : List UInt8
  to : List UInt8
deriving DecidableEq
structure CaseD where
  value : Nat
  type : Int
deriving DecidableEq
structure NodeD where
  kind : Int
  width : Int
  little : Bool
  zig : Bool
  lenient : Bool
  min : Nat
  max : Nat
  text : List UInt8
  ereg : List UInt8
  emul : Nat
  eadd : Nat
  kids : List Int
  last : List Bool
  fields : List FieldD
  reg : List UInt8
  mod : Nat
  cases : List CaseD
  els : Int
deriving DecidableEq
structure DefD where
  name : List UInt8
  type : Int
deriving DecidableEq
structure SpecD where
  nodes : List NodeD
  defs : List DefD
deriving DecidableEq
def fieldV (f : FieldD) : List Value := [str f.name, .int .i64 f.type, .int .i64 f.derive, str f.of, str f.to]
def caseV (c : CaseD) : List Value := [.int .u64 (c.value : Nat), .int .i64 c.type]
def defV (d : DefD) : List Value := [str d.name, .int .i64 d.type]
/-- Where a node's slices lie. -/
structure NodeA where
  ka : Option Addr
  kc : Nat
  la : Option Addr
  lc : Nat
  fa : Option Addr
  fc : Nat
  ca : Option Addr
  cc : Nat
def nodeV (d : NodeD) (a : NodeA) : List Value :=
  [.int .i64 d.kind, .int .i64 d.width, .bool d.little, .bool d.zig, .bool d.lenient, .int .u64 (d.min : Nat), .int .u64 (d.max : Nat), str d.text, str d.ereg, .int .u64 (d.emul : Nat), .int .u64 (d.eadd : Nat),
   .slice a.ka d.kids.length a.kc, .slice a.la d.last.length a.lc, .slice a.fa d.fields.length a.fc, str d.reg, .int .u64 (d.mod : Nat), .slice a.ca d.cases.length a.cc, .int .i64 d.els]
def kidsV (l : List Int) : List Value := l.map (Value.int .i64)
def lastV (l : List Bool) : List Value := l.map Value.bool
def fieldsV (l : List FieldD) : List Value := l.flatMap fieldV
def casesV (l : List CaseD) : List Value := l.flatMap caseV
def defsV (l : List DefD) : List Value := l.flatMap defV
abbrev In64 (x : Int) : Prop := -9223372036854775808 ≤ x ∧ x ≤ 9223372036854775807
/-- A node's slices lie there, and last. -/
structure NodeOk (ro : Ro) (d : NodeD) (a : NodeA) : Prop where
  kids : Rs ro a.ka d.kids.length a.kc 1 (kidsV d.kids)
  last : Rs ro a.la d.last.length a.lc 1 (lastV d.last)
  fields : Rs ro a.fa d.fields.length a.fc 5 (fieldsV d.fields)
  cases : Rs ro a.ca d.cases.length a.cc 2 (casesV d.cases)
/-- A node's numbers are of their kinds. -/
structure NodeIn (d : NodeD) : Prop where
  kind : In64 d.kind
  width : In64 d.width
  min : d.min < 18446744073709551616
  max : d.max < 18446744073709551616
  emul : d.emul < 18446744073709551616
  eadd : d.eadd < 18446744073709551616
  mod : d.mod < 18446744073709551616
  els : In64 d.els
  kids : ∀ k ∈ d.kids, In64 k
  fields : ∀ f ∈ d.fields, In64 f.type ∧ In64 f.derive
  cases : ∀ c ∈ d.cases, In64 c.type ∧ c.value < 18446744073709551616
theorem fieldsV_len (l : List FieldD) : (fieldsV l).length = l.length * 5 := by induction l with
  | nil => rfl
  | cons f l ih => simp [fieldsV, fieldV] at ih ⊢; omega
theorem fieldsV_drop (l : List FieldD) : ∀ {i : Nat} (h : i < l.length), ((fieldsV l).drop (i * 5)).take 5 = fieldV l[i] := by
  induction l with
  | nil => intro i h; simp at h
  | cons f l ih =>
    intro i h
    cases i with
    | zero => rfl
    | succ i =>
      have := ih (i := i) (by simpa using h)
      rw [show (i + 1) * 5 = i * 5 + 5 by omega, Nat.add_comm]
      show List.take 5 (List.drop (5 + i * 5) (fieldV f ++ fieldsV l)) = _
      rw [← List.drop_drop, List.drop_left' (by rfl)]
      simpa using this
theorem casesV_drop (l : List CaseD) : ∀ {i : Nat} (h : i < l.length), ((casesV l).drop (i * 2)).take 2 = caseV l[i] := by
  induction l with
  | nil => intro i h; simp at h
  | cons f l ih =>
    intro i h
    cases i with
    | zero => rfl
    | succ i =>
      have := ih (i := i) (by simpa using h)
      rw [show (i + 1) * 2 = i * 2 + 2 by omega, Nat.add_comm]
      show List.take 2 (List.drop (2 + i * 2) (caseV f ++ casesV l)) = _
      rw [← List.drop_drop, List.drop_left' (by rfl)]
      simpa using this
theorem defsV_len (l : List DefD) : (defsV l).length = l.length * 2 := by induction l with
  | nil => rfl
  | cons f l ih => simp [defsV, defV] at ih ⊢; omega
theorem defsV_drop (l : List DefD) : ∀ {i : Nat} (h : i < l.length), ((defsV l).drop (i * 2)).take 2 = defV l[i] := by
  induction l with
  | nil => intro i h; simp at h
  | cons f l ih =>
    intro i h
    cases i with
    | zero => rfl
    | succ i =>
      have := ih (i := i) (by simpa using h)
      rw [show (i + 1) * 2 = i * 2 + 2 by omega, Nat.add_comm]
      show List.take 2 (List.drop (2 + i * 2) (defV f ++ defsV l)) = _
      rw [← List.drop_drop, List.drop_left' (by rfl)]
      simpa using this
theorem kidsV_one (l : List Int) : ∀ u ∈ kidsV l, u.oneCell' = true := one_int .i64 l
theorem lastV_one (l : List Bool) : ∀ u ∈ lastV l, u.oneCell' = true := fun u hu => by obtain ⟨b, _, rfl⟩ := List.mem_map.1 hu; rfl
theorem fieldsV_one (l : List FieldD) : ∀ u ∈ fieldsV l, u.oneCell' = true := fun u hu => by
  obtain ⟨f, _, hf⟩ := List.mem_flatMap.1 hu
  simp [fieldV] at hf
  rcases hf with rfl | rfl | rfl | rfl | rfl <;> rfl
theorem casesV_one (l : List CaseD) : ∀ u ∈ casesV l, u.oneCell' = true := fun u hu => by
  obtain ⟨f, _, hf⟩ := List.mem_flatMap.1 hu
  simp [caseV] at hf
  rcases hf with rfl | rfl <;> rfl
theorem defsV_one (l : List DefD) : ∀ u ∈ defsV l, u.oneCell' = true := fun u hu => by
  obtain ⟨f, _, hf⟩ := List.mem_flatMap.1 hu
  simp [defV] at hf
  rcases hf with rfl | rfl <;> rfl
/-- The types of which a type is made. -/
def kidsD (d : NodeD) : List Int := d.kids ++ d.fields.map (·.type) ++ d.cases.map (·.type) ++ (if d.kind = 9 ∧ 0 ≤ d.els then [d.els] else [])
section
variable {ro : Ro} {own r : Chs} {K : Value → Ro → Chs → Prop} {g : Chunk → Chs}
theorem kids_ok {d : NodeD} {a : NodeA} (ho : NodeOk ro d a) (hn : d.kids.length ≤ 1000000 ∧ d.fields.length ≤ 1000000 ∧ d.cases.length ≤ 1000000) (hk : ∀ a' n' c', n' = (kidsD d).length → n' ≤ c' → c' ≤ maxLen → K (.slice a' n' c') ro (.sl a' n' c' 3 1 (kidsV (kidsD d)) :: own)) :
    CallOk Tryz.prog 27 #[.agg (nodeV d a).toArray] ro own K := by
  have hr1 := ho.kids
  have hr3 := ho.fields
  have hr4 := ho.cases
  refine CallOk.intro (args := [_]) (rs := [_]) T_ok Tryz.func27 Tryz.call27 rfl rfl (by kernel_rfl) rfl rfl ?_
  repeat (first | exact endA | refine wkG ?_ | refine opB (fun b => ?_) | refine opA (fun a' c' hc1 hc2 => ?_) | (show GJ _ _ _ _ _ _ _; first | (apply GJ.and; exact rfl; intro hg) | (apply GJ.or; exact rfl; intro hg) | refine GJ.t omAuto ?_ | refine GJ.f omAuto ?_ | refine GJ.ft omAuto ?_ | refine GJ.ff omAuto ?_))
  refine cloneI_ok hr1 (kidsV_one _) (by omega) (fun a1 c1 h1 h2 => ?_)
  repeat (first | exact endA | refine wkG ?_ | refine opB (fun b => ?_) | refine opA (fun a' c' hc1 hc2 => ?_) | (show GJ _ _ _ _ _ _ _; first | (apply GJ.and; exact rfl; intro hg) | (apply GJ.or; exact rfl; intro hg) | refine GJ.t omAuto ?_ | refine GJ.f omAuto ?_ | refine GJ.ft omAuto ?_ | refine GJ.ff omAuto ?_))
  refine LoopOk.at (ι := Nat × List Value × Option Addr × Nat × Nat) Keep.auto (fun (i, cs, a1, n1, c1) => [(14, .int .i64 (i : Int)), (3, .slice a1 n1 c1)]) (fun (i, cs, a1, n1, c1) => .sl a1 n1 c1 3 1 cs :: .blk b 41 (nodeV d a) :: own) (fun (i, cs, a1, n1, c1) => i ≤ d.fields.length ∧ cs = kidsV (d.kids ++ (d.fields.take i).map (·.type)) ∧ n1 = d.kids.length + i ∧ n1 ≤ c1 ∧ c1 ≤ maxLen) (fun (i, cs, a1, n1, c1) => d.fields.length - i) (0, _, _, _, _) ?_ Sub.auto Sup.auto ?_
  · exact ⟨by omega, by simp, by omega, by omega, by omega⟩
  rintro ⟨i, cs, a1, n1, c1⟩ ⟨i1, rfl, rfl, i4, i5⟩
  dsimp only [List.cons_append, List.nil_append]
  repeat (first | exact endA | refine wkG ?_ | refine opB (fun b => ?_) | refine opA (fun a' c' hc1 hc2 => ?_) | (show GJ _ _ _ _ _ _ _; first | (apply GJ.and; exact rfl; intro hg) | (apply GJ.or; exact rfl; intro hg) | refine GJ.t omAuto ?_ | refine GJ.f omAuto ?_ | refine GJ.ft omAuto ?_ | refine GJ.ff omAuto ?_))
  refine Br.cases (fun hc => ?_) (fun hc => ?_)
  · have hd := fieldsV_drop d.fields (i := i) (by omega)
    have htk : d.fields.take (i + 1) = d.fields.take i ++ [d.fields[i]'(by omega)] := by rw [List.take_add_one, List.getElem?_eq_getElem (by omega)]; rfl
    generalize hf : d.fields[i]'(by omega) = f at hd htk
    repeat (first | exact endA | refine wkG ?_ | refine opB (fun b => ?_) | refine opA (fun a' c' hc1 hc2 => ?_) | (show GJ _ _ _ _ _ _ _; first | (apply GJ.and; exact rfl; intro hg) | (apply GJ.or; exact rfl; intro hg) | refine GJ.t omAuto ?_ | refine GJ.f omAuto ?_ | refine GJ.ft omAuto ?_ | refine GJ.ff omAuto ?_))
    rw [Int.toNat_natCast]
    refine OpOk.loadRow rfl rfl (LdN.at hr3 hd) rfl ?_
    repeat (first | exact endA | refine wkG ?_ | refine opB (fun b => ?_) | refine opA (fun a' c' hc1 hc2 => ?_) | (show GJ _ _ _ _ _ _ _; first | (apply GJ.and; exact rfl; intro hg) | (apply GJ.or; exact rfl; intro hg) | refine GJ.t omAuto ?_ | refine GJ.f omAuto ?_ | refine GJ.ft omAuto ?_ | refine GJ.ff omAuto ?_))
    refine Wk.id ⟨(i + 1, _, _, _, _), ⟨rfl, ?_⟩, ?_, Sub.auto, Sup.auto⟩
    all_goals try dsimp only
    · exact ⟨by omega, by rw [htk]; simp [kidsV], by omega, by omega, by omega⟩
    · omega
  · obtain rfl : i = d.fields.length := by omega
    rw [List.take_length]
    repeat (first | exact endA | refine wkG ?_ | refine opB (fun b => ?_) | refine opA (fun a' c' hc1 hc2 => ?_) | (show GJ _ _ _ _ _ _ _; first | (apply GJ.and; exact rfl; intro hg) | (apply GJ.or; exact rfl; intro hg) | refine GJ.t omAuto ?_ | refine GJ.f omAuto ?_ | refine GJ.ft omAuto ?_ | refine GJ.ff omAuto ?_))
    refine LoopOk.at (ι := Nat × List Value × Option Addr × Nat × Nat) Keep.auto (fun (i, cs, a1, n1, c1) => [(27, .int .i64 (i : Int)), (3, .slice a1 n1 c1)]) (fun (i, cs, a1, n1, c1) => .sl a1 n1 c1 3 1 cs :: .blk b 41 (nodeV d a) :: own) (fun (i, cs, a1, n1, c1) => i ≤ d.cases.length ∧ cs = kidsV (d.kids ++ d.fields.map (·.type) ++ (d.cases.take i).map (·.type)) ∧ n1 = d.kids.length + d.fields.length + i ∧ n1 ≤ c1 ∧ c1 ≤ maxLen) (fun (i, cs, a1, n1, c1) => d.cases.length - i) (0, _, _, _, _) ?_ Sub.auto Sup.auto ?_
    · exact ⟨by omega, by simp, by omega, by omega, by omega⟩
    rintro ⟨i, cs, a1, n1, c1⟩ ⟨i1, rfl, rfl, i4, i5⟩
    dsimp only [List.cons_append, List.nil_append]
    repeat (first | exact endA | refine wkG ?_ | refine opB (fun b => ?_) | refine opA (fun a' c' hc1 hc2 => ?_) | (show GJ _ _ _ _ _ _ _; first | (apply GJ.and; exact rfl; intro hg) | (apply GJ.or; exact rfl; intro hg) | refine GJ.t omAuto ?_ | refine GJ.f omAuto ?_ | refine GJ.ft omAuto ?_ | refine GJ.ff omAuto ?_))
    refine Br.cases (fun hc => ?_) (fun hc => ?_)
    · have hd := casesV_drop d.cases (i := i) (by omega)
      have htk : d.cases.take (i + 1) = d.cases.take i ++ [d.cases[i]'(by omega)] := by rw [List.take_add_one, List.getElem?_eq_getElem (by omega)]; rfl
      generalize hf : d.cases[i]'(by omega) = f at hd htk
      repeat (first | exact endA | refine wkG ?_ | refine opB (fun b => ?_) | refine opA (fun a' c' hc1 hc2 => ?_) | (show GJ _ _ _ _ _ _ _; first | (apply GJ.and; exact rfl; intro hg) | (apply GJ.or; exact rfl; intro hg) | refine GJ.t omAuto ?_ | refine GJ.f omAuto ?_ | refine GJ.ft omAuto ?_ | refine GJ.ff omAuto ?_))
      rw [Int.toNat_natCast]
      refine OpOk.loadRow rfl rfl (LdN.at hr4 hd) rfl ?_
      repeat (first | exact endA | refine wkG ?_ | refine opB (fun b => ?_) | refine opA (fun a' c' hc1 hc2 => ?_) | (show GJ _ _ _ _ _ _ _; first | (apply GJ.and; exact rfl; intro hg) | (apply GJ.or; exact rfl; intro hg) | refine GJ.t omAuto ?_ | refine GJ.f omAuto ?_ | refine GJ.ft omAuto ?_ | refine GJ.ff omAuto ?_))
      refine Wk.id ⟨(i + 1, _, _, _, _), ⟨rfl, ?_⟩, ?_, Sub.auto, Sup.auto⟩
      all_goals try dsimp only
      · exact ⟨by omega, by rw [htk]; simp [kidsV], by omega, by omega, by omega⟩
      · omega
    · obtain rfl : i = d.cases.length := by omega
      rw [List.take_length]
      repeat (first | exact endA | refine wkG ?_ | refine opB (fun b => ?_) | refine opA (fun a' c' hc1 hc2 => ?_) | (show GJ _ _ _ _ _ _ _; first | (apply GJ.and; exact rfl; intro hg) | (apply GJ.or; exact rfl; intro hg) | refine GJ.t omAuto ?_ | refine GJ.f omAuto ?_ | refine GJ.ft omAuto ?_ | refine GJ.ff omAuto ?_))
      have hkl : (kidsD d).length = d.kids.length + d.fields.length + d.cases.length + (if d.kind = 9 ∧ 0 ≤ d.els then 1 else 0) := by
        unfold kidsD
        split <;> simp <;> omega
      refine SeqOk.pass ?_
      repeat (first | exact endA | refine wkG ?_ | refine opB (fun b => ?_) | refine opA (fun a' c' hc1 hc2 => ?_) | (show GJ _ _ _ _ _ _ _; first | (apply GJ.and; exact rfl; intro hg) | (apply GJ.or; exact rfl; intro hg) | refine GJ.t omAuto ?_ | refine GJ.f omAuto ?_ | refine GJ.ft omAuto ?_ | refine GJ.ff omAuto ?_))
      refine Br.cases (fun he => ?_) (fun he => ?_)
      · rw [if_pos (by omega)] at hkl
        have hks : kidsV (d.kids ++ d.fields.map (·.type) ++ d.cases.map (·.type)) ++ [.int .i64 d.els] = kidsV (kidsD d) := by rw [kidsD, if_pos (by omega)]; simp [kidsV]
        repeat (first | exact endA | refine wkG ?_ | refine opB (fun b => ?_) | refine opA (fun a' c' hc1 hc2 => ?_) | (show GJ _ _ _ _ _ _ _; first | (apply GJ.and; exact rfl; intro hg) | (apply GJ.or; exact rfl; intro hg) | refine GJ.t omAuto ?_ | refine GJ.f omAuto ?_ | refine GJ.ft omAuto ?_ | refine GJ.ff omAuto ?_))
        rw [hks]
        exact Wk.outS Sup.auto (.refl _) (hk _ _ _ (by omega) (by omega) (by omega))
      · rw [if_neg (by omega)] at hkl
        have hks : kidsV (d.kids ++ d.fields.map (·.type) ++ d.cases.map (·.type)) = kidsV (kidsD d) := by rw [kidsD, if_neg (by omega)]; simp [kidsV]
        rw [hks]
        repeat (first | exact endA | refine wkG ?_ | refine opB (fun b => ?_) | refine opA (fun a' c' hc1 hc2 => ?_) | (show GJ _ _ _ _ _ _ _; first | (apply GJ.and; exact rfl; intro hg) | (apply GJ.or; exact rfl; intro hg) | refine GJ.t omAuto ?_ | refine GJ.f omAuto ?_ | refine GJ.ft omAuto ?_ | refine GJ.ff omAuto ?_))
        exact Wk.outS Sup.auto (.refl _) (hk _ _ _ (by omega) (by omega) (by omega))
theorem number_ok {d : NodeD} {a : NodeA} (hk : K (.bool (decide (d.kind = 1 ∨ d.kind = 2))) ro own) : CallOk Tryz.prog 32 #[.agg (nodeV d a).toArray] ro own K := by
  refine CallOk.intro (args := [_]) (rs := [_]) T_ok Tryz.func32 Tryz.call32 rfl rfl (by kernel_rfl) rfl rfl ?_
  repeat (first | exact endA | refine wkG ?_ | refine opB (fun b => ?_) | refine opA (fun a' c' hc1 hc2 => ?_) | (show GJ _ _ _ _ _ _ _; first | (apply GJ.and; exact rfl; intro hg) | (apply GJ.or; exact rfl; intro hg) | refine GJ.t omAuto ?_ | refine GJ.f omAuto ?_ | refine GJ.ft omAuto ?_ | refine GJ.ff omAuto ?_))
  have e : (decide (d.kind = 1) || decide (d.kind = 2)) = decide (d.kind = 1 ∨ d.kind = 2) := by rw [Bool.eq_iff_iff]; simp
  rw [← e] at hk
  exact Wk.outS Sup.auto (.refl _) hk
def mostD (d : NodeD) : Nat := if d.kind = 1 then mostN d.width else 18446744073709551615
theorem smost_ok {d : NodeD} {a : NodeA} (hk : K (.int .u64 (mostD d : Nat)) ro own) : CallOk Tryz.prog 34 #[.agg (nodeV d a).toArray] ro own K := by
  refine CallOk.intro (args := [_]) (rs := [_]) T_ok Tryz.func34 Tryz.call34 rfl rfl (by kernel_rfl) rfl rfl ?_
  repeat (first | exact endA | refine wkG ?_ | refine opB (fun b => ?_) | refine opA (fun a' c' hc1 hc2 => ?_) | (show GJ _ _ _ _ _ _ _; first | (apply GJ.and; exact rfl; intro hg) | (apply GJ.or; exact rfl; intro hg) | refine GJ.t omAuto ?_ | refine GJ.f omAuto ?_ | refine GJ.ft omAuto ?_ | refine GJ.ff omAuto ?_))
  refine Br.cases (fun he => ?_) (fun he => ?_)
  · rw [mostD, if_pos he] at hk
    repeat (first | exact endA | refine wkG ?_ | refine opB (fun b => ?_) | refine opA (fun a' c' hc1 hc2 => ?_) | (show GJ _ _ _ _ _ _ _; first | (apply GJ.and; exact rfl; intro hg) | (apply GJ.or; exact rfl; intro hg) | refine GJ.t omAuto ?_ | refine GJ.f omAuto ?_ | refine GJ.ft omAuto ?_ | refine GJ.ff omAuto ?_))
    refine most_ok ?_
    repeat (first | exact endA | refine wkG ?_ | refine opB (fun b => ?_) | refine opA (fun a' c' hc1 hc2 => ?_) | (show GJ _ _ _ _ _ _ _; first | (apply GJ.and; exact rfl; intro hg) | (apply GJ.or; exact rfl; intro hg) | refine GJ.t omAuto ?_ | refine GJ.f omAuto ?_ | refine GJ.ft omAuto ?_ | refine GJ.ff omAuto ?_))
    exact Wk.outS Sup.auto (.refl _) hk
  · rw [mostD, if_neg he] at hk
    repeat (first | exact endA | refine wkG ?_ | refine opB (fun b => ?_) | refine opA (fun a' c' hc1 hc2 => ?_) | (show GJ _ _ _ _ _ _ _; first | (apply GJ.and; exact rfl; intro hg) | (apply GJ.or; exact rfl; intro hg) | refine GJ.t omAuto ?_ | refine GJ.f omAuto ?_ | refine GJ.ft omAuto ?_ | refine GJ.ff omAuto ?_))
    exact Wk.outS Sup.auto (.refl _) hk
end
end Go.Proofs.YtefipginoakecaaGreatDoor
end
