/- Operations on memory, over memory told by parts. No program in sight. -/
import Derived.Test.YtknfebfdehdapaaDoorV5
namespace Go.E
open Go
set_option linter.unusedVariables false
set_option linter.unusedSimpArgs false
class TTab (P : Program) (T : outParam TT) : Prop where
  ok : TOk P T
/-- The element's type and size of a slice type. -/
def elemOf (T : TT) (t : TypeId) : Option (TypeId × Nat) := match T.get t with
  | some ⟨.slice e, _, _⟩ => match T.get e with
    | some ⟨_, s, zs⟩ => bif Nat.blt 0 s && Nat.beq zs.length s then some (e, s) else none
    | none => none
  | _ => none
def elemA (T : TT) (t : TypeId) : Option (Nat × Nat) := match T.get t with
  | some ⟨.arr n e, _, _⟩ => match T.get e with
    | some ⟨_, s, _⟩ => some (n, s)
    | none => none
  | _ => none
/-- A type of one cell. -/
def oneT (T : TT) (t : TypeId) : Bool := match T.get t with
  | some ⟨u, 1, _⟩ => !u.row
  | _ => false
def cell1 (T : TT) (t : TypeId) : Bool := match T.get t with
  | some ⟨_, 1, _⟩ => true
  | _ => false
def rowT (T : TT) (t : TypeId) : Option Nat := match T.get t with
  | some ⟨u, s, _⟩ => bif u.row then some s else none
  | none => none
def zeroT (T : TT) (t : TypeId) : Option (List Value) := match T.get t with
  | some ⟨_, _, z⟩ => some z
  | none => none
def zero1 (T : TT) (t : TypeId) : Option (TypeId × Value) := match T.get t with
  | some ⟨.slice e, _, _⟩ => match T.get e with
    | some ⟨_, 1, [z]⟩ => bif z.oneCell' then some (e, z) else none
    | _ => none
  | _ => none
theorem elemOf_spec {T : TT} {t e s : Nat} (h : elemOf T t = some (e, s)) : ∃ z1 z2 te, T.get t = some ⟨.slice e, z1, z2⟩ ∧ T.get e = some te ∧ te.size = s ∧ te.zero.length = s ∧ 0 < s := by
  unfold elemOf at h
  split at h
  · split at h
    · rename_i u s' zs he
      cases hb : (Nat.blt 0 s' && Nat.beq zs.length s') with
      | false => simp [hb] at h
      | true =>
        simp only [hb, cond_true, Option.some.injEq, Prod.mk.injEq] at h
        obtain ⟨rfl, rfl⟩ := h
        simp only [Bool.and_eq_true] at hb
        exact ⟨_, _, _, by assumption, he, rfl, Nat.eq_of_beq_eq_true hb.2, Nat.lt_of_lt_of_le Nat.zero_lt_one (by simpa [Nat.blt] using hb.1)⟩
    · cases h
  · cases h
theorem elemA_spec {T : TT} {t n s : Nat} (h : elemA T t = some (n, s)) : ∃ e z1 z2 te, T.get t = some ⟨.arr n e, z1, z2⟩ ∧ T.get e = some te ∧ te.size = s := by
  unfold elemA at h
  split at h
  · split at h
    · cases h; exact ⟨_, _, _, _, by assumption, by assumption, rfl⟩
    · cases h
  · cases h
theorem cell1_spec {T : TT} {t : Nat} (h : cell1 T t = true) : ∃ ti, T.get t = some ti ∧ ti.size = 1 := by
  unfold cell1 at h
  split at h
  · exact ⟨_, by assumption, rfl⟩
  · cases h
theorem oneT_spec {T : TT} {t : Nat} (h : oneT T t = true) : ∃ ti, T.get t = some ti ∧ ti.size = 1 ∧ ti.u.row = false := by
  unfold oneT at h
  split at h
  · exact ⟨_, by assumption, rfl, by simpa using h⟩
  · cases h
theorem rowT_spec {T : TT} {t s : Nat} (h : rowT T t = some s) : ∃ ti, T.get t = some ti ∧ ti.size = s ∧ ti.u.row = true := by
  unfold rowT at h
  split at h
  · rename_i u s' z ht
    cases hr : u.row <;> simp [hr] at h
    subst h; exact ⟨_, ht, rfl, hr⟩
  · cases h
theorem zeroT_spec {T : TT} {t : Nat} {z : List Value} (h : zeroT T t = some z) : ∃ ti, T.get t = some ti ∧ ti.zero = z := by
  unfold zeroT at h
  split at h
  · cases h; exact ⟨_, by assumption, rfl⟩
  · cases h
theorem zero1_spec {T : TT} {t e : Nat} {z : Value} (h : zero1 T t = some (e, z)) : ∃ z1 z2 u, T.get t = some ⟨.slice e, z1, z2⟩ ∧ T.get e = some ⟨u, 1, [z]⟩ ∧ z.oneCell' = true := by
  unfold zero1 at h
  split at h
  · split at h
    · rename_i z' he
      cases hz : z'.oneCell' <;> simp [hz] at h
      obtain ⟨rfl, rfl⟩ := h
      exact ⟨_, _, _, by assumption, he, hz⟩
    · cases h
  · cases h
/-- The list ends with this. -/
class inductive Suf : Chs → Chs → Prop where
  | refl (l : Chs) : Suf l l
  | cons (c : Chunk) {l o : Chs} (h : Suf l o) : Suf (c :: l) o
instance Suf.step (c : Chunk) (l o : Chs) [h : Suf l o] : Suf (c :: l) o := .cons c h
instance Suf.here (l : Chs) : Suf l l := .refl l
theorem Sat.suf {ro : Ro} {own own' : Chs} {h : Heap} (hs : Sat ro own h) (hp : Suf own own') : Sat ro own' h := by
  induction hp with
  | refl l => exact hs
  | cons c h ih => exact ih hs.drop
theorem Sat.leq {ro ro' : Ro} {own : Chs} {h : Heap} (hs : Sat ro' own h) (hl : Leq ro ro') : Sat ro own h :=
  ⟨fun b o hb => hs.last b o (hl.le b o hb), hs.parts, hs.nd, fun c hc b hb => by
    cases hr : ro b with
    | none => rfl
    | some o => have := hl.le b o hr; rw [hs.ap c hc b hb] at this; cases this⟩
def ab : Option Addr → Nat
  | some a => a.block | none => 0
def ao : Option Addr → Nat
  | some a => a.off | none => 0
/-- A slice that may be read: n elements of s cells, whose cells are these. -/
structure Rds (ro : Ro) (own : Chs) (a : Option Addr) (n c s : Nat) (cs : List Value) : Prop where
  run : ∀ h, Sat ro own h → Rd h (.slice a n c) n cs
  len : cs.length = n * s
  le : n ≤ c
  max : c ≤ maxLen
theorem Rds.up {ro ro' : Ro} {own own' : Chs} {a : Option Addr} {n c s : Nat} {cs : List Value} (hr : Rds ro own a n c s cs) [hl : Leq ro ro'] [hp : Suf own' own] : Rds ro' own' a n c s cs :=
  ⟨fun h hs => hr.run h ((hs.leq hl).suf hp), hr.len, hr.le, hr.max⟩
theorem Rds.nil (ro : Ro) (own : Chs) (s : Nat) : Rds ro own none 0 0 s [] := ⟨fun h _ => Rd.nil h, by simp, Nat.le_refl _, Nat.zero_le _⟩
/-- What a slice of one's own says of the heap. -/
theorem Chunk.own {h : Heap} {a : Option Addr} {n c s : Nat} {t : TypeId} {cs : List Value} (hc : (Chunk.sl a n c t s cs).holds (hm h)) : Own h 0 t s (.slice a n c) n cs := by
  obtain ⟨h1, h2, h3, h4⟩ := hc
  refine ⟨h1, ?_⟩
  rcases h4 with ⟨rfl, rfl, rfl⟩ | ⟨b, sp, rfl, h5, h6⟩
  · exact .inl ⟨rfl, rfl⟩
  · exact .inr ⟨b, c, (cs ++ sp).toArray, rfl, Nat.zero_le _, h5, h2, h3, by simpa using h6, by simp [← h1]⟩
theorem Chunk.ofOwn {h : Heap} {base : Nat} {v : Value} {n s : Nat} {t : TypeId} {cs : List Value} (ho : Own h base t s v n cs) : ∃ a c, v = .slice a n c ∧ (Chunk.sl a n c t s cs).holds (hm h) := by
  rcases ho.2 with ⟨rfl, rfl⟩ | ⟨g, cap, cur, rfl, hb, hg, h1, h2, h3, h4⟩
  · exact ⟨none, 0, rfl, ho.1, Nat.le_refl _, Nat.zero_le _, .inl ⟨rfl, rfl, rfl⟩⟩
  · refine ⟨_, cap, rfl, ho.1, h1, h2, .inr ⟨g, cur.toList.drop (n * s), rfl, ?_, ?_⟩⟩
    · unfold RowR hm
      rw [← h4, List.take_append_drop]
      simpa using hg
    · rw [ho.1, List.length_drop, Array.length_toList, h3]
      have := Nat.mul_le_mul_right s h1
      omega
theorem Take.sat {ro : Ro} {own r : Chs} {c : Chunk} {h : Heap} (ht : Take own c r) (hs : Sat ro own h) : Sat ro (c :: r) h := hs.perm ht.perm
theorem Rds.own {ro : Ro} {own r : Chs} {a : Option Addr} {n c s : Nat} {t : TypeId} {cs : List Value} (ht : Take own (.sl a n c t s cs) r) (hl : n ≤ c) (hm : c ≤ maxLen) (hn : cs.length = n * s) : Rds ro own a n c s cs :=
  ⟨fun h hs => (Chunk.own (ht.sat hs).cons.1).rd, hn, hl, hm⟩
/-- A lasting slice. -/
theorem Rds.last {ro : Ro} {own : Chs} {a : Option Addr} {n c s : Nat} {t : TypeId} {cs : List Value} (hc : (Chunk.sl a n c t s cs).holds ro) : Rds ro own a n c s cs :=
  ⟨fun h hs => (Chunk.own (h := h) (hc.le ⟨fun b o hb => hs.last b o hb⟩)).rd, hc.1, hc.2.1, hc.2.2.1⟩
/-- A cell's value. -/
def Ld (ro : Ro) (own : Chs) (b o : Nat) (v : Value) : Prop := ∀ h, Sat ro own h → cellAt h b o = some v
theorem Ld.blk {ro : Ro} {own r : Chs} {b o : Nat} {t : TypeId} {cs : List Value} {v : Value} (ht : Take own (.blk b t cs) r) (hv : nthV cs o = some v) : Ld ro own b o v := fun h hs =>
  Row.cell (h := h) (t := t) (cs := cs) (ht.sat hs).cons.1 (nthV_spec hv)
theorem Ld.blkAt {ro : Ro} {own r : Chs} {b o : Nat} {t : TypeId} {cs : List Value} {v : Value} (ht : Take own (.blk b t cs) r) (hv : cs[o]? = some v) : Ld ro own b o v := fun h hs =>
  Row.cell (h := h) (t := t) (cs := cs) (ht.sat hs).cons.1 hv
theorem Ld.lastBlk {ro : Ro} {own : Chs} {b o : Nat} {t : TypeId} {cs : List Value} {v : Value} (hr : RowR ro b t cs) (hv : nthV cs o = some v) : Ld ro own b o v := fun h hs =>
  Row.cell (h := h) (t := t) (cs := cs) (hs.last _ _ hr) (nthV_spec hv)
theorem Rd.cell {h : Heap} {a : Option Addr} {n c : Nat} {cs : List Value} {k : Nat} {v : Value} (hr : Rd h (.slice a n c) n cs) (hv : cs[k]? = some v) : cellAt h (ab a) (ao a + k) = some v := by
  rcases hr with ⟨_, rfl, _⟩ | ⟨_, b, o, cap, hv', _, _, _, hc⟩
  · simp at hv
  · cases hv'; exact hc k v hv
theorem Ld.sl {ro : Ro} {own r : Chs} {a : Option Addr} {n c s : Nat} {t : TypeId} {cs : List Value} {k : Nat} {v : Value} (ht : Take own (.sl a n c t s cs) r) (hv : cs[k]? = some v) : Ld ro own (ab a) (ao a + k) v := fun h hs =>
  (Chunk.own (ht.sat hs).cons.1).rd.cell hv
theorem Ld.rds {ro ro' : Ro} {own own' : Chs} {a : Option Addr} {n c s : Nat} {cs : List Value} {k : Nat} {v : Value} (hr : Rds ro own a n c s cs) [hl : Leq ro ro'] [hp : Suf own' own] (hv : cs[k]? = some v) : Ld ro' own' (ab a) (ao a + k) v := fun h hs =>
  (hr.run h ((hs.leq hl).suf hp)).cell hv
/-- Some cells' values. -/
def LdN (ro : Ro) (own : Chs) (b o : Nat) (cs : List Value) : Prop := ∀ h, Sat ro own h → Cells h b o cs
theorem LdN.blk {ro : Ro} {own r : Chs} {b : Nat} {t : TypeId} {cs : List Value} (ht : Take own (.blk b t cs) r) : LdN ro own b 0 cs := fun h hs => Row.cells (h := h) (t := t) (ht.sat hs).cons.1
theorem LdN.lastBlk {ro : Ro} {own : Chs} {b : Nat} {t : TypeId} {cs : List Value} (hr : RowR ro b t cs) : LdN ro own b 0 cs := fun h hs => Row.cells (h := h) (t := t) (hs.last _ _ hr)
theorem LdN.part {ro : Ro} {own : Chs} {b o : Nat} {cs : List Value} (k z : Nat) (hc : LdN ro own b o cs) : LdN ro own b (o + k) ((cs.drop k).take z) := fun h hs j v hv => by
  rw [List.getElem?_take] at hv
  split at hv
  · rw [List.getElem?_drop] at hv
    have := hc h hs (k + j) v hv
    rwa [← Nat.add_assoc] at this
  · cases hv
theorem LdN.rds {ro ro' : Ro} {own own' : Chs} {a : Option Addr} {n c s : Nat} {cs : List Value} {k z : Nat} (hr : Rds ro own a n c s cs) [hl : Leq ro ro'] [hp : Suf own' own] : LdN ro' own' (ab a) (ao a + k) ((cs.drop k).take z) := fun h hs j v hv => by
  rw [List.getElem?_take] at hv
  split at hv
  · rw [List.getElem?_drop] at hv
    have := (hr.run h ((hs.leq hl).suf hp)).cell hv
    rwa [← Nat.add_assoc] at this
  · cases hv
theorem LdN.sl {ro : Ro} {own r : Chs} {a : Option Addr} {n c s : Nat} {t : TypeId} {cs : List Value} {k z : Nat} (ht : Take own (.sl a n c t s cs) r) : LdN ro own (ab a) (ao a + k) ((cs.drop k).take z) := fun h hs j v hv => by
  rw [List.getElem?_take] at hv
  split at hv
  · rw [List.getElem?_drop] at hv
    have := (Chunk.own (ht.sat hs).cons.1).rd.cell hv
    rwa [← Nat.add_assoc] at this
  · cases hv
/-- The slice has an address, if it has an element. -/
def AOk (ro : Ro) (own : Chs) (a : Option Addr) (n : Nat) : Prop := ∀ h, Sat ro own h → 0 < n → ∃ b o, a = some ⟨b, o, none⟩
theorem AOk.lit {ro : Ro} {own : Chs} {b o n : Nat} : AOk ro own (some ⟨b, o, none⟩) n := fun _ _ _ => ⟨b, o, rfl⟩
theorem AOk.of {h : Heap} {a : Option Addr} {n c : Nat} {cs : List Value} (hr : Rd h (.slice a n c) n cs) (hn : 0 < n) : ∃ b o, a = some ⟨b, o, none⟩ := by
  obtain ⟨b, o, _, hv, _⟩ := hr.posn hn
  cases hv; exact ⟨b, o, rfl⟩
theorem AOk.rds {ro ro' : Ro} {own own' : Chs} {a : Option Addr} {n c s : Nat} {cs : List Value} (hr : Rds ro own a n c s cs) [hl : Leq ro ro'] [hp : Suf own' own] : AOk ro' own' a n := fun h hs hn => AOk.of (hr.run h ((hs.leq hl).suf hp)) hn
theorem AOk.sl {ro : Ro} {own r : Chs} {a : Option Addr} {n c s : Nat} {t : TypeId} {cs : List Value} (ht : Take own (.sl a n c t s cs) r) : AOk ro own a n := fun h hs hn => AOk.of (Chunk.own (ht.sat hs).cons.1).rd hn

/-- A part in its place in the list is put in another's. -/
inductive Repl : Chs → Chunk → Chunk → Chs → Prop where
  | hit (c c' : Chunk) (r : Chs) : Repl (c :: r) c c' (c' :: r)
  | miss (x : Chunk) {r : Chs} {c c' : Chunk} {r' : Chs} (h : Repl r c c' r') : Repl (x :: r) c c' (x :: r')
theorem Repl.perm {l : Chs} {c c' : Chunk} {l' : Chs} (h : Repl l c c' l') : ∃ r, l.Perm (c :: r) ∧ l'.Perm (c' :: r) := by
  induction h with
  | hit c c' r => exact ⟨r, .refl _, .refl _⟩
  | miss x h ih =>
    obtain ⟨r, h1, h2⟩ := ih
    exact ⟨x :: r, (h1.cons x).trans (.swap _ _ _), (h2.cons x).trans (.swap _ _ _)⟩
/-- A cell of a list is set. -/
inductive SetR : List Value → Nat → Value → List Value → Prop where
  | hit (x : Value) (r : List Value) (v : Value) : SetR (x :: r) 0 v (v :: r)
  | miss (x : Value) {r : List Value} {k : Nat} {v : Value} {r' : List Value} (h : SetR r k v r') : SetR (x :: r) (k + 1) v (x :: r')
theorem SetR.spec {l : List Value} {k : Nat} {v : Value} {l' : List Value} (h : SetR l k v l') : l' = l.set k v ∧ k < l.length := by
  induction h with
  | hit x r v => simp
  | miss x h ih => obtain ⟨rfl, h2⟩ := ih; simp [h2]

/-- A block is among the parts; another part put in its place. -/
class HasBlk (l : Chs) (b : Nat) (t : outParam TypeId) (cs : outParam (List Value)) (f : outParam (Chunk → Chs)) : Prop where
  repl : ∀ x, Repl l (.blk b t cs) x (f x)
instance HasBlk.miss (y : Chunk) (l : Chs) (b : Nat) (t : TypeId) (cs : List Value) (f : Chunk → Chs) [h : HasBlk l b t cs f] : HasBlk (y :: l) b t cs (fun x => y :: f x) := ⟨fun x => .miss y (h.repl x)⟩
instance HasBlk.hit (b : Nat) (t : TypeId) (cs : List Value) (r : Chs) : HasBlk (.blk b t cs :: r) b t cs (fun x => x :: r) := ⟨fun x => .hit _ x r⟩
class HasSl (l : Chs) (a : Option Addr) (n c : outParam Nat) (t : outParam TypeId) (s : outParam Nat) (cs : outParam (List Value)) (f : outParam (Chunk → Chs)) : Prop where
  repl : ∀ x, Repl l (.sl a n c t s cs) x (f x)
instance HasSl.miss (y : Chunk) (l : Chs) (a : Option Addr) (n c : Nat) (t : TypeId) (s : Nat) (cs : List Value) (f : Chunk → Chs) [h : HasSl l a n c t s cs f] : HasSl (y :: l) a n c t s cs (fun x => y :: f x) := ⟨fun x => .miss y (h.repl x)⟩
instance HasSl.hit (a : Option Addr) (n c : Nat) (t : TypeId) (s : Nat) (cs : List Value) (r : Chs) : HasSl (.sl a n c t s cs :: r) a n c t s cs (fun x => x :: r) := ⟨fun x => .hit _ x r⟩
theorem Repl.get {ro : Ro} {own own' : Chs} {c x : Chunk} {h : Heap} (hr : Repl own c x own') (hs : Sat ro own h) : c.holds (hm h) := by
  obtain ⟨r, p1, _⟩ := hr.perm
  exact (hs.perm p1).cons.1
theorem LdN.hasBlk {ro : Ro} {own : Chs} {b : Nat} {t : TypeId} {cs : List Value} {f : Chunk → Chs} [hb : HasBlk own b t cs f] : LdN ro own b 0 cs := fun h hs => Row.cells (h := h) (t := t) ((hb.repl (.obj 0 default)).get hs)
theorem Ld.hasBlk {ro : Ro} {own : Chs} {b o : Nat} {t : TypeId} {cs : List Value} {f : Chunk → Chs} {v : Value} [hb : HasBlk own b t cs f] (hv : nthV cs o = some v) : Ld ro own b o v := fun h hs => Row.cell (h := h) (t := t) ((hb.repl (.obj 0 default)).get hs) (nthV_spec hv)
theorem Ld.hasBlkAt {ro : Ro} {own : Chs} {b o : Nat} {t : TypeId} {cs : List Value} {f : Chunk → Chs} {v : Value} [hb : HasBlk own b t cs f] (hv : cs[o]? = some v) : Ld ro own b o v := fun h hs => Row.cell (h := h) (t := t) ((hb.repl (.obj 0 default)).get hs) hv
theorem Ld.hasSl {ro : Ro} {own : Chs} {a : Option Addr} {n c s : Nat} {t : TypeId} {cs : List Value} {f : Chunk → Chs} {k : Nat} {v : Value} [hb : HasSl own a n c t s cs f] (hv : cs[k]? = some v) : Ld ro own (ab a) (ao a + k) v := fun h hs =>
  (Chunk.own ((hb.repl (.obj 0 default)).get hs)).rd.cell hv
theorem LdN.hasSl {ro : Ro} {own : Chs} {a : Option Addr} {n c s : Nat} {t : TypeId} {cs : List Value} {f : Chunk → Chs} {k z : Nat} [hb : HasSl own a n c t s cs f] : LdN ro own (ab a) (ao a + k) ((cs.drop k).take z) := fun h hs j v hv => by
  rw [List.getElem?_take] at hv
  split at hv
  · rw [List.getElem?_drop] at hv
    have := (Chunk.own ((hb.repl (.obj 0 default)).get hs)).rd.cell hv
    rwa [← Nat.add_assoc] at this
  · cases hv
theorem AOk.hasSl {ro : Ro} {own : Chs} {a : Option Addr} {n c s : Nat} {t : TypeId} {cs : List Value} {f : Chunk → Chs} [hb : HasSl own a n c t s cs f] : AOk ro own a n := fun h hs hn => AOk.of (Chunk.own ((hb.repl (.obj 0 default)).get hs)).rd hn
/-- .. whose cells are those of a list's elements. -/
theorem getMap {α : Type} [Inhabited α] {f : α → Value} {l : List α} {k : Nat} (hk : k < l.length) : (l.map f)[k]? = some (f l[k]!) := by
  rw [List.getElem?_map, List.getElem?_eq_getElem hk, List.getElem!_eq_getElem?_getD, List.getElem?_eq_getElem hk]; rfl
theorem Rds.hasSl {ro : Ro} {own : Chs} {a : Option Addr} {n c s : Nat} {t : TypeId} {cs : List Value} {f : Chunk → Chs} [hb : HasSl own a n c t s cs f] (hl : n ≤ c) (hm : c ≤ maxLen) (hn : cs.length = n * s) : Rds ro own a n c s cs :=
  ⟨fun h hs => (Chunk.own ((hb.repl (.obj 0 default)).get hs)).rd, hn, hl, hm⟩

section
variable {P : Program} {T : TT} [hT : TTab P T] {ty : TypeId} {env : Env} {ro : Ro} {own : Chs} {K : Value → Ro → Chs → Prop}
theorem OpOk.pu {op : Op} {v : Value} (hp : ∀ h, Sat ro own h → ∀ d pos af g, Pu P ⟨d, op, ty, pos, af, g⟩ env h v) (hk : K v ro own) : OpOk P op ty env ro own K :=
  ⟨fun h hs d pos af g => ⟨fun ρ w hρ hw => ⟨v, w, .inl ((hp h hs d pos af g).run ρ w hρ hw), Hp.self w, ro, own, Le.refl _, by rw [hw]; exact hs, hk⟩⟩⟩
theorem Eff.mono {o : Oper} {h : Heap} {Φ Ψ : Value → Heap → Prop} (he : Eff P o env h Φ) (hi : ∀ v h', Φ v h' → Ψ v h') : Eff P o env h Ψ :=
  ⟨fun ρ w hρ hw => by obtain ⟨v, w', h1, h2, h3⟩ := he.run ρ w hρ hw; exact ⟨v, w', h1, h2, hi _ _ h3⟩⟩
theorem c1sz {t : TypeId} (h : cell1 T t = true) : (P.info? t).map (·.size) = some 1 := by
  obtain ⟨ti, h1, h2⟩ := cell1_spec h
  rw [hT.ok.sz h1, h2]
theorem rsz {t z : Nat} (h : rowT T t = some z) : (P.info? t).map (·.size) = some z := by
  obtain ⟨ti, h1, h2, _⟩ := rowT_spec h
  rw [hT.ok.sz h1, h2]
theorem OpOk.load {t : TypeId} {x : Operand} {b o : Nat} {v : Value} (hx : ev env x = some (.pointer (some ⟨b, o, none⟩))) (ht : oneT T t = true) (hl : Ld ro own b o v) (hk : K v ro own) :
    OpOk P (.load t x) ty env ro own K := by
  have h00 := oneT_spec ht
  clear ht
  obtain ⟨ti, ht, _, hr⟩ := h00
  obtain ⟨du, h1, h2⟩ := hT.ok.row ht
  exact OpOk.pu (fun h hs d pos af g => Pu.load hx h1 (h2.trans hr) (hl h hs)) hk
theorem OpOk.loadRow {t : TypeId} {x : Operand} {b o : Nat} {cs : List Value} {z : Nat} (hx : ev env x = some (.pointer (some ⟨b, o, none⟩))) (ht : rowT T t = some z) (hl : LdN ro own b o cs) (hn : cs.length = z) (hk : K (.agg cs.toArray) ro own) :
    OpOk P (.load t x) ty env ro own K := by
  have h00 := rowT_spec ht
  clear ht
  obtain ⟨ti, ht, rfl, hr⟩ := h00
  obtain ⟨du, h1, h2⟩ := hT.ok.row ht
  exact OpOk.pu (fun h hs d pos af g => Pu.loadRow hx h1 (h2.trans hr) ((hT.ok.sz ht).trans (by rw [hn])) (hl h hs)) hk
theorem OpOk.idx {t e : TypeId} {x ix : Operand} {a : Option Addr} {n c : Nat} {k : IntKind} {i : Int} {s : Nat} (hx : ev env x = some (.slice a n c)) (hi : ev env ix = some (.int k i)) (ht : elemOf T t = some (e, s))
    (hb : 0 ≤ i ∧ i < n) (ha : AOk ro own a n) (hk : K (.pointer (some ⟨ab a, ao a + i.toNat * s, none⟩)) ro own) : OpOk P (.indexAddr t x ix) ty env ro own K := by
  have h00 := elemOf_spec ht
  clear ht
  obtain ⟨z1, z2, te, ht, he, rfl, _, _⟩ := h00
  exact OpOk.pu (fun h hs d pos af g => by
    obtain ⟨b, o, rfl⟩ := ha h hs (by omega)
    exact Pu.idx hx hi (hT.ok.slice ht) (hT.ok.sz he) hb) hk
theorem OpOk.idx1 {t e : TypeId} {x ix : Operand} {a : Option Addr} {n c : Nat} {k : IntKind} {i : Int} (hx : ev env x = some (.slice a n c)) (hi : ev env ix = some (.int k i)) (ht : elemOf T t = some (e, 1))
    (hb : 0 ≤ i ∧ i < n) (ha : AOk ro own a n) (hk : K (.pointer (some ⟨ab a, ao a + i.toNat, none⟩)) ro own) : OpOk P (.indexAddr t x ix) ty env ro own K :=
  OpOk.idx hx hi ht hb ha (by simpa using hk)
/-- An array behind a pointer. -/
theorem OpOk.idxA {t : TypeId} {x ix : Operand} {b o n : Nat} {k : IntKind} {i : Int} {s : Nat} (hx : ev env x = some (.pointer (some ⟨b, o, none⟩))) (hi : ev env ix = some (.int k i)) (hm : elemA T t = some (n, s))
    (hb : 0 ≤ i ∧ i < n) (hk : K (.pointer (some ⟨b, o + i.toNat * s, none⟩)) ro own) : OpOk P (.indexAddr t x ix) ty env ro own K := by
  have h00 := elemA_spec hm
  clear hm
  obtain ⟨e, z3, z4, te, hm, he, rfl⟩ := h00
  exact OpOk.pu (fun h hs d pos af g => .mk fun ρ w hρ _ => by
    simp [execOp, hρ _ _ hx, hρ _ _ hi, Instr.indexAt, asIntOf, run_underlying (hT.ok.arr hm), sizeOf_of (hT.ok.sz he), hb.1, hb.2, Addr.add_mid, Instr.sureAddr]) hk
theorem OpOk.store {t : TypeId} {x y : Operand} {b o : Nat} {v : Value} {t0 : TypeId} {cs cs' : List Value} {f : Chunk → Chs} (hx : ev env x = some (.pointer (some ⟨b, o, none⟩))) (hy : ev env y = some v) (ht : cell1 T t = true) (h1 : v.oneCell' = true)
    [hb : HasBlk own b t0 cs f] (hs : SetR cs o v cs') (hk : K undef ro (f (.blk b t0 cs'))) : OpOk P (.store t x y) ty env ro own K :=
  ⟨fun h hsat d pos af g => by
    obtain ⟨rfl, hlt⟩ := hs.spec
    obtain ⟨r, p1, p2⟩ := (hb.repl (.blk b t0 (cs.set o v))).perm
    have hsat := hsat.perm p1
    refine (Eff.store0 hx hy (c1sz ht) h1 hsat.cons.1 hlt).mono ?_
    rintro _ h' ⟨rfl, g1, g2, g3⟩
    exact ⟨ro, _, Le.refl _, (hsat.put (c' := .blk b t0 (cs.set o v)) (fun k _ hk => g3 k (by simpa [Chunk.fp] using hk)) g2 (fun k hk => .inl hk) (by simp [Chunk.fp])).perm p2.symm, hk⟩⟩
theorem OpOk.storeAt {t : TypeId} {x y : Operand} {b o : Nat} {v : Value} {t0 : TypeId} {cs : List Value} {f : Chunk → Chs} (hx : ev env x = some (.pointer (some ⟨b, o, none⟩))) (hy : ev env y = some v) (ht : cell1 T t = true) (h1 : v.oneCell' = true)
    [hb : HasBlk own b t0 cs f] (hs : o < cs.length) (hk : K undef ro (f (.blk b t0 (cs.set o v)))) : OpOk P (.store t x y) ty env ro own K :=
  ⟨fun h hsat d pos af g => by
    obtain ⟨r, p1, p2⟩ := (hb.repl (.blk b t0 (cs.set o v))).perm
    have hsat := hsat.perm p1
    refine (Eff.store0 hx hy (c1sz ht) h1 hsat.cons.1 hs).mono ?_
    rintro _ h' ⟨rfl, g1, g2, g3⟩
    exact ⟨ro, _, Le.refl _, (hsat.put (c' := .blk b t0 (cs.set o v)) (fun k _ hk => g3 k (by simpa [Chunk.fp] using hk)) g2 (fun k hk => .inl hk) (by simp [Chunk.fp])).perm p2.symm, hk⟩⟩
/-- A struct is stored whole. -/
theorem OpOk.storeRow {t : TypeId} {x y : Operand} {b : Nat} {vs : List Value} {t0 : TypeId} {cs : List Value} {f : Chunk → Chs} {z : Nat} (hx : ev env x = some (.pointer (some ⟨b, 0, none⟩))) (hy : ev env y = some (.agg vs.toArray)) [hb : HasBlk own b t0 cs f] (ht : rowT T t = some z) (hz : vs.length = z) (hc : cs.length = z) (h1 : vs.all (fun u => u.oneCell') = true)
    (hk : K undef ro (f (.blk b t0 vs))) : OpOk P (.store t x y) ty env ro own K :=
  ⟨fun h hsat d pos af g => by
    obtain ⟨r, p1, p2⟩ := (hb.repl (.blk b t0 vs)).perm
    have hsat := hsat.perm p1
    refine (Eff.storeN0 hx hy ((rsz ht).trans (by simp [Value.cells, hz])) (by simpa [Value.cells] using List.all_eq_true.1 h1) hsat.cons.1 (by simp [Value.cells]; omega)).mono ?_
    rintro _ h' ⟨rfl, g1, g2, g3⟩
    have e : splice cs 0 (Value.agg vs.toArray).cells.toList = vs := by
      have : cs.drop vs.length = [] := List.drop_eq_nil_of_le (by omega)
      simp [splice, Value.cells, this]
    rw [e] at g2
    exact ⟨ro, _, Le.refl _, (hsat.put (c' := .blk b t0 vs) (fun k _ hk => g3 k (by simpa [Chunk.fp] using hk)) g2 (fun k hk => .inl hk) (by simp [Chunk.fp])).perm p2.symm, hk⟩⟩
/-- Into a slice of one's own, whose elements are of one cell. -/
theorem OpOk.storeSl {t : TypeId} {x y : Operand} {a : Option Addr} {k : Nat} {v : Value} {n c s : Nat} {t0 : TypeId} {cs : List Value} {f : Chunk → Chs} (hx : ev env x = some (.pointer (some ⟨ab a, ao a + k, none⟩))) (hy : ev env y = some v) (ht : cell1 T t = true) (h1 : v.oneCell' = true)
    [hb : HasSl own a n c t0 s cs f] (hlt : k < cs.length) (hk : K undef ro (f (.sl a n c t0 s (cs.set k v)))) : OpOk P (.store t x y) ty env ro own K :=
  ⟨fun h hsat d pos af g => by
    obtain ⟨r, p1, p2⟩ := (hb.repl (.sl a n c t0 s (cs.set k v))).perm
    have hsat := hsat.perm p1
    obtain ⟨c1, c2, c3, c4⟩ := hsat.cons.1
    rcases c4 with ⟨rfl, rfl, rfl⟩ | ⟨b, sp, rfl, c5, c6⟩
    · simp at c1; subst c1; simp at hlt
    · simp only [ab, ao, Nat.zero_add] at hx
      refine (Eff.store0 hx hy (c1sz ht) h1 c5 (by simp; omega)).mono ?_
      rintro _ h' ⟨rfl, g1, g2, g3⟩
      refine ⟨ro, _, Le.refl _, (hsat.put (c' := .sl (some ⟨b, 0, none⟩) n c t0 s (cs.set k v)) (fun k _ hk => g3 k (by simpa [Chunk.fp] using hk)) ⟨by simpa using c1, c2, c3, .inr ⟨b, sp, rfl, ?_, by simpa using c6⟩⟩ (fun k hk => .inl hk) (by simp [Chunk.fp])).perm p2.symm, hk⟩
      rw [← List.set_append_left _ _ hlt]; exact g2⟩
theorem OpOk.box {t : TypeId} {x : Operand} {v : Value} (hx : ev env x = some v) (hk : ∀ b, K (.pointer (some ⟨b, 0, none⟩)) ro (.blk b t v.cells.toList :: own)) : OpOk P (.box t x) ty env ro own K :=
  ⟨fun h hs d pos af g => (Eff.box hx).mono (by
    rintro _ h' ⟨rfl, n1, n2, n3⟩
    exact ⟨ro, _, Le.refl _, hs.new (c' := .blk h.size t v.cells.toList) n3 (by simpa [Chunk.holds, RowR, hm] using n2) (by simp [Chunk.fp]) (by simp [Chunk.fp]), hk h.size⟩)⟩
theorem OpOk.alloc {t : TypeId} {z : List Value} (ht : zeroT T t = some z) (hk : ∀ b, K (.pointer (some ⟨b, 0, none⟩)) ro (.blk b t z :: own)) : OpOk P (.alloc t) ty env ro own K := by
  have h00 := zeroT_spec ht
  clear ht
  obtain ⟨ti, ht, rfl⟩ := h00
  obtain ⟨d, j, z, hi⟩ := tiOf.all (hT.ok.get ht)
  exact ⟨fun h hs d pos af g => (Eff.alloc (z := z) (fun w => by simp [zeroValue, typeInfo, hi.info, hi.zero])).mono (by
    rintro _ h' ⟨rfl, n1, n2, n3⟩
    exact ⟨ro, _, Le.refl _, hs.new (c' := .blk h.size t ti.zero) n3 (by simpa [Chunk.holds, RowR, hm, hi.cells] using n2) (by simp [Chunk.fp]) (by simp [Chunk.fp]), hk h.size⟩)⟩
/-- A part is made to last ahead of an operation. -/
theorem OpOk.freeze {op : Op} {own' : Chs} {c : Chunk} (ht : Take own c own') (h : ∀ ro', Le ro ro' → c.holds ro' → OpOk P op ty env ro' own' K) : OpOk P op ty env ro own K :=
  ⟨fun g hg d pos af gd => .mk fun ρ w hρ hw => by
    obtain ⟨ro', hl, hc, hs⟩ := (hg.perm ht.perm).freeze
    obtain ⟨v, w', h1, h2, ro2, own2, hl2, hs2, hK⟩ := ((h ro' hl hc).run g hs d pos af gd).run ρ w hρ hw
    exact ⟨v, w', h1, h2, ro2, own2, hl.trans hl2, hs2, hK⟩⟩
/-- Results that are cells behind pointers. -/
inductive RL (P : Program) (T : TT) (env : Env) (ro : Ro) (own : Chs) : List ResultVar → List Value → Prop where
  | nil : RL P T env ro own [] []
  | tmp {t : Nat} {v : Value} {r : List ResultVar} {vs : List Value} (hv : look env t = some v) (hr : RL P T env ro own r vs) : RL P T env ro own (.tmp t :: r) (v :: vs)
  | one {t ty b o : Nat} {v : Value} {r : List ResultVar} {vs : List Value} (hx : look env t = some (.pointer (some ⟨b, o, none⟩))) (ht : oneT T ty = true) (hl : Ld ro own b o v) (hr : RL P T env ro own r vs) : RL P T env ro own (.cell t ty :: r) (v :: vs)
  | row {t ty b o z : Nat} {cs : List Value} {r : List ResultVar} {vs : List Value} (hx : look env t = some (.pointer (some ⟨b, o, none⟩))) (ht : rowT T ty = some z) (hl : LdN ro own b o cs) (hn : cs.length = z) (hr : RL P T env ro own r vs) : RL P T env ro own (.cell t ty :: r) (.agg cs.toArray :: vs)
theorem RL.rv {rs : List ResultVar} {vs : List Value} (hv : RL P T env ro own rs vs) {h : Heap} (hs : Sat ro own h) : RV P env h rs vs := by
  induction hv with
  | nil => exact .nil
  | tmp hv hr ih => exact .tmp hv ih
  | one hx ht hl hr ih =>
    obtain ⟨ti, ht, _, hr⟩ := oneT_spec ht
    obtain ⟨du, h1, h2⟩ := hT.ok.row ht
    exact .cell hx (fun w hw => by subst hw; exact run_loadVar_one h1 (h2.trans hr) (hl _ hs)) ih
  | row hx ht hl hn hr ih =>
    obtain ⟨ti, ht1, rfl, hr⟩ := rowT_spec ht
    obtain ⟨du, h1, h2⟩ := hT.ok.row ht1
    exact .cell hx (fun w hw => by subst hw; exact run_loadVar_mid w _ _ _ _ du (hl _ hs).range h1 (h2.trans hr) ((hT.ok.sz ht1).trans (by rw [hn]))) ih
theorem RetOk.of {rs : List ResultVar} {Φ : Value → Ro → Chs → Prop} {vs : List Value} (hv : RL P T env ro own rs vs) (hk : Wk (fun _ ro own => Φ (tup vs) ro own) [] ro own) : RetOk P rs Φ env ro own := ⟨vs, fun h hs => hv.rv hs, hk⟩
end
/-- What a test says. -/
class BP (c : Bool) (p : outParam Prop) : Prop where
  iff : c = true ↔ p
instance (priority := low) BP.var (c : Bool) : BP c (c = true) := ⟨Iff.rfl⟩
instance BP.dec (p : Prop) [h : Decidable p] : BP (@decide p h) p := ⟨decide_eq_true_iff⟩
instance BP.not (c : Bool) (p : Prop) [h : BP c p] : BP (!c) (¬ p) := ⟨by rw [← h.iff]; simp⟩
instance BP.and (c d : Bool) (p q : Prop) [h : BP c p] [h2 : BP d q] : BP (c && d) (p ∧ q) := ⟨by rw [← h.iff, ← h2.iff]; simp⟩
instance BP.or (c d : Bool) (p q : Prop) [h : BP c p] [h2 : BP d q] : BP (c || d) (p ∨ q) := ⟨by rw [← h.iff, ← h2.iff]; simp⟩
instance BP.tt : BP true True := ⟨by simp⟩
instance BP.ff : BP false False := ⟨by simp⟩
theorem Br.cases {c : Bool} {p A B : Prop} [h : BP c p] (k1 : p → A) (k2 : ¬ p → B) : Br c A B := ⟨fun e => k1 (h.iff.1 e), fun e => k2 (fun hp => by rw [h.iff.2 hp] at e; cases e)⟩
theorem Br.t {c : Bool} {p A B : Prop} [h : BP c p] (hp : p) (k : A) : Br c A B := Br.cases (fun _ => k) (fun hn => absurd hp hn)
theorem Br.f {c : Bool} {p A B : Prop} [h : BP c p] (hp : ¬ p) (k : B) : Br c A B := Br.cases (fun hn => absurd hn hp) (fun _ => k)
theorem Br.nt {A B : Prop} (k : B) : Br (!true) A B := ⟨fun e => (by cases e), fun _ => k⟩
theorem Br.nf {A B : Prop} (k : A) : Br (!false) A B := ⟨fun _ => k, fun e => by cases e⟩
theorem Br.tt {A B : Prop} (k : A) : Br true A B := ⟨fun _ => k, fun e => by cases e⟩
theorem Br.ff {A B : Prop} (k : B) : Br false A B := ⟨fun e => (by cases e), fun _ => k⟩
section
variable {c chk : Bool} {p A B : Prop} {S R : Bool → Prop} [h : BP c p]
theorem GJ.and (q : Bool) (hc : chk = true) (seg : p → S q) (rest : R (c && q)) : GJ c true chk A B S R := .join q hc (fun e => seg (h.iff.1 e)) rest
theorem GJ.or (q : Bool) (hc : chk = true) (seg : ¬ p → S q) (rest : R (c || q)) : GJ c false chk A B S R := .join q hc (fun e => seg (fun hp => by rw [h.iff.2 hp] at e; cases e)) rest
theorem GJ.t (hp : p) (k : A) : GJ c true chk A B S R := .split (fun _ => k) (fun e => by rw [h.iff.2 hp] at e; cases e)
theorem GJ.f (hp : ¬ p) (k : B) : GJ c true chk A B S R := .split (fun e => absurd (h.iff.1 e) hp) (fun _ => k)
theorem GJ.ft (hp : p) (k : B) : GJ c false chk A B S R := .split (fun e => by rw [h.iff.2 hp] at e; cases e) (fun _ => k)
theorem GJ.ff (hp : ¬ p) (k : A) : GJ c false chk A B S R := .split (fun _ => k) (fun e => absurd (h.iff.1 e) hp)
end
section
variable {chk : Bool} {A B : Prop} {S R : Bool → Prop}
theorem GJ.l1 (k : A) : GJ true true chk A B S R := .split (fun _ => k) (fun e => by cases e)
theorem GJ.l2 (k : B) : GJ false true chk A B S R := .split (fun e => by cases e) (fun _ => k)
theorem GJ.l3 (k : B) : GJ true false chk A B S R := .split (fun e => by cases e) (fun _ => k)
theorem GJ.l4 (k : A) : GJ false false chk A B S R := .split (fun _ => k) (fun e => by cases e)
theorem GJ.n1 (k : A) : GJ (!false) true chk A B S R := .split (fun _ => k) (fun e => by cases e)
theorem GJ.n2 (k : B) : GJ (!true) true chk A B S R := .split (fun e => by cases e) (fun _ => k)
theorem GJ.n3 (k : B) : GJ (!false) false chk A B S R := .split (fun e => by cases e) (fun _ => k)
theorem GJ.n4 (k : A) : GJ (!true) false chk A B S R := .split (fun _ => k) (fun e => by cases e)
end
end Go.E
