/- A walk by reckoning: of a piece of code, an environment and a memory told by parts (lasting cells; parts of one's own) the condition under which it does what is asked is reckoned by definition. No program in sight. -/
import Derived.Test.YtknfebfdehdapaaDoorMor
namespace Go.E
open Go
set_option linter.unusedVariables false
set_option linter.unusedSimpArgs false

/-! ### types, told shortly -/
inductive TU where
  | int (k : IntKind) | bool | str | slice (e : TypeId) | ptr (e : TypeId) | struct (fs : List (TypeId × Nat × Nat)) | arr (n : Nat) (e : TypeId) | map (k v : TypeId) | func | iface | other
structure TI where
  u : TU
  size : Nat
  zero : List Value
abbrev TT := List (TypeId × TI)
def TT.get : TT → TypeId → Option TI
  | [], _ => none
  | (k, v) :: r, t => bif Nat.beq k t then some v else TT.get r t
def tuOf (P : Program) : TypeDesc → TU
  | .int k => .int k | .bool => .bool | .string => .str | .slice e => .slice e | .pointer e => .ptr e
  | .struct fs => .struct (fs.toList.map fun f => (f.type, f.offset, ((P.info? f.type).map (·.size)).getD 0))
  | .array n e => .arr n e | .map k v => .map k v | .func _ _ _ => .func | .interface _ => .iface | _ => .other
def fldsOk (P : Program) : TypeDesc → Bool
  | .struct fs => fs.toList.all (fun f => (P.info? f.type).isSome)
  | _ => true
def tiOf (P : Program) (t : TypeId) : Option TI :=
  match P.info? t, P.underlying t with
  | some i, some d => match i.zero with
    | some z => bif Nat.ble i.bytes 1048576 && fldsOk P d then some ⟨tuOf P d, i.size, z.cells.toList⟩ else none
    | none => none
  | _, _ => none
def TOk (P : Program) : TT → Prop
  | [] => True
  | (t, i) :: r => tiOf P t = some i ∧ TOk P r
theorem TOk.get {P : Program} : ∀ {T : TT} {t : TypeId} {i : TI}, TOk P T → T.get t = some i → tiOf P t = some i
  | [], _, _, _, h => by cases h
  | (k, v) :: r, t, i, hT, h => by
    unfold TT.get at h
    by_cases e : Nat.beq k t = true
    · rw [e] at h; simp at h; subst h; have := Nat.eq_of_beq_eq_true e; subst this; exact hT.1
    · rw [Bool.not_eq_true] at e; rw [e] at h; exact hT.2.get h
structure TInfo (P : Program) (t : TypeId) (i : TI) (d : TypeDesc) (j : TypeInfo) (z : Value) : Prop where
  info : P.info? t = some j
  und : P.underlying t = some d
  zero : j.zero = some z
  bytes : j.bytes ≤ 1048576
  u : i.u = tuOf P d
  size : i.size = j.size
  cells : i.zero = z.cells.toList
  flds : fldsOk P d = true
theorem tiOf.all {P : Program} {t : TypeId} {i : TI} (h : tiOf P t = some i) : ∃ d j z, TInfo P t i d j z := by
  unfold tiOf at h
  split at h
  · rename_i j d h1 h2
    split at h
    · rename_i z hz
      cases hb : Nat.ble j.bytes 1048576 && fldsOk P d with
      | false => simp [hb] at h
      | true => simp only [hb, cond_true, Option.some.injEq] at h; subst h; simp only [Bool.and_eq_true] at hb; exact ⟨d, j, z, h1, h2, hz, by simpa using hb.1, rfl, rfl, rfl, hb.2⟩
    · cases h
  · cases h
theorem TInfo.sz {P : Program} {t : TypeId} {i : TI} {d : TypeDesc} {j : TypeInfo} {z : Value} (h : TInfo P t i d j z) : (P.info? t).map (·.size) = some i.size := by simp [h.info, h.size]
theorem TOk.sz {P : Program} {T : TT} {t : TypeId} {i : TI} (hT : TOk P T) (h : T.get t = some i) : (P.info? t).map (·.size) = some i.size := by
  obtain ⟨d, j, z, hi⟩ := tiOf.all (hT.get h); exact hi.sz
theorem TOk.slice {P : Program} {T : TT} {t e : TypeId} {n : Nat} {zs : List Value} (hT : TOk P T) (h : T.get t = some ⟨.slice e, n, zs⟩) : P.underlying t = some (.slice e) := by
  obtain ⟨d, j, z, hi⟩ := tiOf.all (hT.get h); have := hi.u; have h2 := hi.und; cases d <;> simp [tuOf] at this; subst this; exact h2
theorem TOk.int {P : Program} {T : TT} {t : TypeId} {k : IntKind} {n : Nat} {zs : List Value} (hT : TOk P T) (h : T.get t = some ⟨.int k, n, zs⟩) : P.underlying t = some (.int k) := by
  obtain ⟨d, j, z, hi⟩ := tiOf.all (hT.get h); have := hi.u; have h2 := hi.und; cases d <;> simp [tuOf] at this; subst this; exact h2
theorem TOk.bool {P : Program} {T : TT} {t : TypeId} {n : Nat} {zs : List Value} (hT : TOk P T) (h : T.get t = some ⟨.bool, n, zs⟩) : P.underlying t = some .bool := by
  obtain ⟨d, j, z, hi⟩ := tiOf.all (hT.get h); have := hi.u; have h2 := hi.und; cases d <;> simp [tuOf] at this; exact h2
theorem TOk.str {P : Program} {T : TT} {t : TypeId} {n : Nat} {zs : List Value} (hT : TOk P T) (h : T.get t = some ⟨.str, n, zs⟩) : P.underlying t = some .string := by
  obtain ⟨d, j, z, hi⟩ := tiOf.all (hT.get h); have := hi.u; have h2 := hi.und; cases d <;> simp [tuOf] at this; exact h2
theorem TOk.ptr {P : Program} {T : TT} {t e : TypeId} {n : Nat} {zs : List Value} (hT : TOk P T) (h : T.get t = some ⟨.ptr e, n, zs⟩) : P.underlying t = some (.pointer e) := by
  obtain ⟨d, j, z, hi⟩ := tiOf.all (hT.get h); have := hi.u; have h2 := hi.und; cases d <;> simp [tuOf] at this; subst this; exact h2
theorem TOk.arr {P : Program} {T : TT} {t e m : TypeId} {n : Nat} {zs : List Value} (hT : TOk P T) (h : T.get t = some ⟨.arr m e, n, zs⟩) : P.underlying t = some (.array m e) := by
  obtain ⟨d, j, z, hi⟩ := tiOf.all (hT.get h); have := hi.u; have h2 := hi.und; cases d <;> simp [tuOf] at this; obtain ⟨rfl, rfl⟩ := this; exact h2
theorem TOk.struct {P : Program} {T : TT} {t : TypeId} {fs : List (TypeId × Nat × Nat)} {n : Nat} {zs : List Value} (hT : TOk P T) (h : T.get t = some ⟨.struct fs, n, zs⟩) :
    ∃ l : List Field, P.underlying t = some (.struct l.toArray) ∧ (fs = l.map fun f => (f.type, f.offset, ((P.info? f.type).map (·.size)).getD 0)) ∧ ∀ f ∈ l, ∃ i, P.info? f.type = some i := by
  obtain ⟨d, j, z, hi⟩ := tiOf.all (hT.get h)
  have h1 := hi.u
  have h2 := hi.und
  have h3 := hi.flds
  cases d with
  | struct fs' =>
    cases h1
    exact ⟨fs'.toList, by simpa using h2, rfl, fun f hf => Option.isSome_iff_exists.1 (List.all_eq_true.1 h3 f hf)⟩
  | _ => simp [tuOf] at h1
def TU.row : TU → Bool
  | .struct _ => true | .arr _ _ => true | _ => false
theorem TOk.row {P : Program} {T : TT} {t : TypeId} {i : TI} (hT : TOk P T) (h : T.get t = some i) : ∃ d, P.underlying t = some d ∧ d.isRow = i.u.row := by
  obtain ⟨d, j, z, hi⟩ := tiOf.all (hT.get h); refine ⟨d, hi.und, ?_⟩; rw [hi.u]; cases d <;> rfl

/-! ### memory, told by parts -/
abbrev Ro := Nat → Option Obj
inductive Chunk where
  | blk (b : Nat) (t : TypeId) (cs : List Value)
  | sl (a : Option Addr) (n c : Nat) (t : TypeId) (s : Nat) (cs : List Value)
  | obj (b : Nat) (o : Obj)
abbrev Chs := List Chunk
def hm (h : Heap) : Ro := fun b => h[b]?
def RowR (m : Ro) (b : Nat) (t : TypeId) (cs : List Value) : Prop := m b = some (.cells cs.toArray t (0, 0))
def Chunk.fp : Chunk → List Nat
  | .blk b _ _ => [b]
  | .sl none _ _ _ _ _ => []
  | .sl (some a) _ _ _ _ _ => [a.block]
  | .obj b _ => [b]
def Chunk.holds (m : Ro) : Chunk → Prop
  | .blk b t cs => RowR m b t cs
  | .sl a n c t s cs => cs.length = n * s ∧ n ≤ c ∧ c ≤ maxLen ∧ ((a = none ∧ n = 0 ∧ c = 0) ∨ ∃ b sp, a = some ⟨b, 0, none⟩ ∧ RowR m b t (cs ++ sp) ∧ cs.length + sp.length = c * s)
  | .obj b o => m b = some o
class Le (r : outParam Ro) (r' : Ro) : Prop where
  le : ∀ b o, r b = some o → r' b = some o
theorem Le.refl (r : Ro) : Le r r := ⟨fun _ _ h => h⟩
theorem Le.trans {a b c : Ro} (h1 : Le a b) (h2 : Le b c) : Le a c := ⟨fun x o h => h2.le x o (h1.le x o h)⟩
/-- One after another. -/
class Leq (r r' : Ro) : Prop where
  le : ∀ b o, r b = some o → r' b = some o
instance Leq.refl (r : Ro) : Leq r r := ⟨fun _ _ h => h⟩
instance Leq.step {a b c : Ro} [h2 : Le b c] [h1 : Leq a b] : Leq a c := ⟨fun x o h => h2.le x o (h1.le x o h)⟩
theorem Chunk.holds.congr {m m' : Ro} {c : Chunk} (h : c.holds m) (he : ∀ b ∈ c.fp, m' b = m b) : c.holds m' := by
  cases c with
  | blk b t cs => exact (he b (by simp [Chunk.fp])).trans h
  | obj b o => exact (he b (by simp [Chunk.fp])).trans h
  | sl a n c t s cs =>
    obtain ⟨h1, h2, h3, h4⟩ := h
    refine ⟨h1, h2, h3, ?_⟩
    rcases h4 with h4 | ⟨b, sp, rfl, h5, h6⟩
    · exact .inl h4
    · exact .inr ⟨b, sp, rfl, (he b (by simp [Chunk.fp])).trans h5, h6⟩
theorem Chunk.holds.le {m m' : Ro} {c : Chunk} (h : c.holds m) (he : Le m m') : c.holds m' := by
  cases c with
  | blk b t cs => exact he.le _ _ h
  | obj b o => exact he.le _ _ h
  | sl a n c t s cs =>
    obtain ⟨h1, h2, h3, h4⟩ := h
    refine ⟨h1, h2, h3, ?_⟩
    rcases h4 with h4 | ⟨b, sp, rfl, h5, h6⟩
    · exact .inl h4
    · exact .inr ⟨b, sp, rfl, he.le _ _ h5, h6⟩
theorem Chunk.holds.lt {h : Heap} {c : Chunk} (hc : c.holds (hm h)) : ∀ b ∈ c.fp, b < h.size := by
  intro b hb
  cases c with
  | blk b' t cs => simp [Chunk.fp] at hb; subst hb; exact (Array.getElem?_eq_some_iff.1 hc).1
  | obj b' o => simp [Chunk.fp] at hb; subst hb; exact (Array.getElem?_eq_some_iff.1 hc).1
  | sl a n c t s cs =>
    rcases hc.2.2.2 with ⟨rfl, _⟩ | ⟨b', sp, rfl, h5, h6⟩
    · simp [Chunk.fp] at hb
    · simp [Chunk.fp] at hb; subst hb; exact (Array.getElem?_eq_some_iff.1 h5).1
structure Sat (ro : Ro) (own : Chs) (h : Heap) : Prop where
  last : ∀ b o, ro b = some o → h[b]? = some o
  parts : ∀ c ∈ own, c.holds (hm h)
  nd : (own.flatMap Chunk.fp).Nodup
  ap : ∀ c ∈ own, ∀ b ∈ c.fp, ro b = none
theorem Sat.cons {ro : Ro} {c : Chunk} {own : Chs} {h : Heap} (hs : Sat ro (c :: own) h) : c.holds (hm h) ∧ Sat ro own h ∧ (∀ b ∈ c.fp, ∀ d ∈ own, b ∉ d.fp) := by
  obtain ⟨h1, h2, h3, h4⟩ := hs
  rw [List.flatMap_cons, List.nodup_append] at h3
  exact ⟨h2 c (by simp), ⟨h1, fun d hd => h2 d (by simp [hd]), h3.2.1, fun d hd => h4 d (by simp [hd])⟩, fun b hb d hd hbd => h3.2.2 b hb b (List.mem_flatMap.2 ⟨d, hd, hbd⟩) rfl⟩
theorem Sat.perm {ro : Ro} {own own' : Chs} {h : Heap} (hs : Sat ro own h) (hp : own.Perm own') : Sat ro own' h :=
  ⟨hs.last, fun c hc => hs.parts c (hp.mem_iff.2 hc), (hp.flatMap_right _).nodup_iff.1 hs.nd, fun c hc => hs.ap c (hp.mem_iff.2 hc)⟩
theorem Sat.drop {ro : Ro} {c : Chunk} {own : Chs} {h : Heap} (hs : Sat ro (c :: own) h) : Sat ro own h := hs.cons.2.1
/-- One part is put in another's place; the heap has changed in its blocks alone, and in new ones. -/
theorem Sat.put {ro : Ro} {c c' : Chunk} {own : Chs} {h h' : Heap} (hs : Sat ro (c :: own) h) (hk : ∀ b, b < h.size → b ∉ c.fp → h'[b]? = h[b]?) (hc : c'.holds (hm h')) (hf : ∀ b ∈ c'.fp, b ∈ c.fp ∨ h.size ≤ b) (hn : c'.fp.Nodup) : Sat ro (c' :: own) h' := by
  obtain ⟨h1, h2, h3⟩ := hs.cons
  have hlt : ∀ b o, ro b = some o → b < h.size := fun b o hb => (Array.getElem?_eq_some_iff.1 (hs.last b o hb)).1
  have hkeep : ∀ d ∈ own, ∀ b ∈ d.fp, hm h' b = hm h b := fun d hd b hb => hk b ((h2.parts d hd).lt b hb) (fun hbc => h3 b hbc d hd hb)
  refine ⟨fun b o hb => ?_, fun d hd => ?_, ?_, fun d hd b hb => ?_⟩
  · rw [hk b (hlt b o hb) (fun hbc => by rw [hs.ap c (by simp) b hbc] at hb; cases hb)]
    exact hs.last b o hb
  · simp at hd
    rcases hd with rfl | hd
    · exact hc
    · exact (h2.parts d hd).congr (hkeep d hd)
  · rw [List.flatMap_cons, List.nodup_append]
    refine ⟨hn, h2.nd, fun b hb b' hb' e => ?_⟩
    subst e
    obtain ⟨d, hd, hbd⟩ := List.mem_flatMap.1 hb'
    rcases hf b hb with hb2 | hb2
    · exact h3 b hb2 d hd hbd
    · have := (h2.parts d hd).lt b hbd; omega
  · simp at hd
    rcases hd with rfl | hd
    · rcases hf b hb with hb2 | hb2
      · exact hs.ap c (by simp) b hb2
      · cases hr : ro b with
        | none => rfl
        | some o => have := hlt b o hr; omega
    · exact h2.ap d hd b hb
/-- A new part; all that was is as it was. -/
theorem Sat.new {ro : Ro} {c' : Chunk} {own : Chs} {h h' : Heap} (hs : Sat ro own h) (hk : ∀ b, b < h.size → h'[b]? = h[b]?) (hc : c'.holds (hm h')) (hf : ∀ b ∈ c'.fp, h.size ≤ b) (hn : c'.fp.Nodup) : Sat ro (c' :: own) h' := by
  have hs' : Sat ro (.sl none 0 0 0 0 [] :: own) h := ⟨hs.last, fun d hd => by
      simp at hd
      rcases hd with rfl | hd
      · exact ⟨rfl, Nat.le_refl _, Nat.zero_le _, .inl ⟨rfl, rfl, rfl⟩⟩
      · exact hs.parts d hd, by simpa [Chunk.fp] using hs.nd, fun d hd => by
      simp at hd
      rcases hd with rfl | hd
      · simp [Chunk.fp]
      · exact hs.ap d hd⟩
  exact hs'.put (fun b hb _ => hk b hb) hc (fun b hb => .inr (hf b hb)) hn
theorem Sat.keep {ro : Ro} {own : Chs} {h h' : Heap} (hs : Sat ro own h) (hk : ∀ b, b < h.size → h'[b]? = h[b]?) : Sat ro own h' :=
  (hs.new (c' := .sl none 0 0 0 0 []) hk ⟨rfl, Nat.le_refl _, Nat.zero_le _, .inl ⟨rfl, rfl, rfl⟩⟩ (by simp [Chunk.fp]) (by simp [Chunk.fp])).drop
/-- A part is made to last. -/
theorem Sat.freeze {ro : Ro} {c : Chunk} {own : Chs} {h : Heap} (hs : Sat ro (c :: own) h) : ∃ ro', Le ro ro' ∧ c.holds ro' ∧ Sat ro' own h := by
  obtain ⟨h1, h2, h3⟩ := hs.cons
  refine ⟨fun b => if b ∈ c.fp then h[b]? else ro b, ⟨fun b o hb => ?_⟩, h1.congr (fun b hb => by simp [hb, hm]), fun b o hb => ?_, h2.parts, h2.nd, fun d hd b hb => ?_⟩
  · by_cases hbc : b ∈ c.fp
    · rw [hs.ap c (by simp) b hbc] at hb; cases hb
    · simp [hbc, hb]
  · by_cases hbc : b ∈ c.fp
    · simpa [hbc] using hb
    · simp [hbc] at hb; exact hs.last b o hb
  · have : b ∉ c.fp := fun hbc => h3 b hbc d hd hb
    simp [this, h2.ap d hd b hb]
/-- A part is at a place of the list, the others are these. -/
inductive Take : Chs → Chunk → Chs → Prop where
  | hit (c : Chunk) (r : Chs) : Take (c :: r) c r
  | miss (x : Chunk) {r : Chs} {c : Chunk} {r' : Chs} (h : Take r c r') : Take (x :: r) c (x :: r')
theorem Take.perm {l : Chs} {c : Chunk} {r : Chs} (h : Take l c r) : l.Perm (c :: r) := by
  induction h with
  | hit c r => exact .refl _
  | miss x h ih => exact (ih.cons x).trans (.swap _ _ _)

/-! ### what is asked of an operation on memory, of a call -/
structure OpOk (P : Program) (op : Op) (ty : TypeId) (env : Env) (ro : Ro) (own : Chs) (K : Value → Ro → Chs → Prop) : Prop where
  run : ∀ h, Sat ro own h → ∀ d pos af g, Eff P ⟨d, op, ty, pos, af, g⟩ env h (fun v h' => ∃ ro' own', Le ro ro' ∧ Sat ro' own' h' ∧ K v ro' own')
/-- What a call comes to: a function is entered and returns, or (of one without a body) it yields at once. -/
def CallRes (P : Program) (f : FuncId) (args : Array Value) (w : World) (R : Value → World → Prop) : Prop :=
  ((callFunc f args).run P w = .ok (.enter f args) w ∧ Calls P f args w (fun e w' => ∃ v, e = .returned v ∧ R v w')) ∨ ∃ v w', (callFunc f args).run P w = .ok (.value v) w' ∧ R v w'
theorem CallRes.mono {P : Program} {f : FuncId} {args : Array Value} {w : World} {R R' : Value → World → Prop} (h : CallRes P f args w R) (hi : ∀ v w', R v w' → R' v w') : CallRes P f args w R' := by
  rcases h with ⟨h1, h2⟩ | ⟨v, w', h1, h2⟩
  · exact .inl ⟨h1, h2.mono fun e w' ⟨v, he, hR⟩ => ⟨v, he, hi _ _ hR⟩⟩
  · exact .inr ⟨v, w', h1, hi _ _ h2⟩
def Post (ro : Ro) (K : Value → Ro → Chs → Prop) (w : World) (v : Value) (w' : World) : Prop := Hp w'.heap w w' ∧ ∃ ro' own', Le ro ro' ∧ Sat ro' own' w'.heap ∧ K v ro' own'
structure CallOk (P : Program) (f : FuncId) (args : Array Value) (ro : Ro) (own : Chs) (K : Value → Ro → Chs → Prop) : Prop where
  run : ∀ w, Sat ro own w.heap → CallRes P f args w (Post ro K w)
theorem CallOk.body {P : Program} {f : FuncId} {args : Array Value} {ro : Ro} {own : Chs} {K : Value → Ro → Chs → Prop} (enter : ∀ args w, (callFunc f args).run P w = .ok (.enter f args) w)
    (meets : ∀ h, Sat ro own h → Meets P f args h (fun v h' => ∃ ro' own', Le ro ro' ∧ Sat ro' own' h' ∧ K v ro' own')) : CallOk P f args ro own K :=
  ⟨fun w hs => .inl ⟨enter args w, (meets w.heap hs w rfl).mono fun e w' ⟨v, he, hh, hp⟩ => ⟨v, he, hh, hp⟩⟩⟩
theorem CallOk.post {P : Program} {f : FuncId} {args : Array Value} {ro ro0 : Ro} {own own0 : Chs} {K K' : Value → Ro → Chs → Prop} (h : CallOk P f args ro0 own0 K') (hs : ∀ h, Sat ro own h → Sat ro0 own0 h)
    (hk : ∀ v ro' own' h', Le ro0 ro' → Sat ro' own' h' → K' v ro' own' → ∃ ro2 own2, Le ro ro2 ∧ Sat ro2 own2 h' ∧ K v ro2 own2) : CallOk P f args ro own K :=
  ⟨fun w hw => (h.run w (hs _ hw)).mono fun v w' ⟨hh, ro', own', hl, hs', hK⟩ => ⟨hh, hk v ro' own' _ hl hs' hK⟩⟩
theorem CallOk.mono {P : Program} {f : FuncId} {args : Array Value} {ro : Ro} {own : Chs} {K K' : Value → Ro → Chs → Prop} (h : CallOk P f args ro own K) (hk : ∀ v ro' own', Le ro ro' → K v ro' own' → K' v ro' own') : CallOk P f args ro own K' :=
  h.post (fun _ h => h) (fun v ro' own' h' hl hs hK => ⟨ro', own', hl, hs, hk _ _ _ hl hK⟩)
theorem OpOk.mono {P : Program} {op : Op} {ty : TypeId} {env : Env} {ro : Ro} {own : Chs} {K K' : Value → Ro → Chs → Prop} (h : OpOk P op ty env ro own K) (hk : ∀ v ro' own', Le ro ro' → K v ro' own' → K' v ro' own') : OpOk P op ty env ro own K' :=
  ⟨fun g hg d pos af gd => ⟨fun ρ w hρ hw => by
    obtain ⟨v, w', h1, h2, ro', own', hl, hs, hK⟩ := (h.run g hg d pos af gd).run ρ w hρ hw
    exact ⟨v, w', h1, h2, ro', own', hl, hs, hk _ _ _ hl hK⟩⟩⟩
/-- The parts ahead of the operation may be told otherwise. -/
theorem OpOk.perm {P : Program} {op : Op} {ty : TypeId} {env : Env} {ro : Ro} {own own' : Chs} {K : Value → Ro → Chs → Prop} (hp : own.Perm own') (h : OpOk P op ty env ro own' K) : OpOk P op ty env ro own K :=
  ⟨fun g hg => h.run g (hg.perm hp)⟩
theorem CallOk.perm {P : Program} {f : FuncId} {args : Array Value} {ro : Ro} {own own' : Chs} {K : Value → Ro → Chs → Prop} (hp : own.Perm own') (h : CallOk P f args ro own' K) : CallOk P f args ro own K :=
  h.post (fun _ h => h.perm hp) (fun v ro' own' h' hl hs hK => ⟨ro', own', hl, hs, hK⟩)
/-- A part is made to last ahead of a call. -/
theorem CallOk.freeze {P : Program} {f : FuncId} {args : Array Value} {ro : Ro} {own own' : Chs} {c : Chunk} {K : Value → Ro → Chs → Prop} (ht : Take own c own') (h : ∀ ro', Le ro ro' → c.holds ro' → CallOk P f args ro' own' K) : CallOk P f args ro own K :=
  ⟨fun w hg => by
    obtain ⟨ro', hl, hc, hs⟩ := (hg.perm ht.perm).freeze
    exact ((h ro' hl hc).run w hs).mono fun v w' ⟨hh, ro2, own2, hl2, hs2, hK⟩ => ⟨hh, ro2, own2, hl.trans hl2, hs2, hK⟩⟩

/-! ### what single operations yield, by reckoning -/
inductive PR where
  | no
  | ok (v : Value)
  | req (p : Prop) (v : Value)
def InI (a : Int) : Prop := -9223372036854775808 ≤ a ∧ a ≤ 9223372036854775807
def arith (k : IntKind) (r : Int) : PR := match k with
  | .i64 => .req (-9223372036854775808 ≤ r ∧ r ≤ 9223372036854775807) (.int .i64 r)
  | .u8 => .ok (.int .u8 (r % 256))
  | .u16 => .ok (.int .u16 (r % 65536))
  | .u32 => .ok (.int .u32 (r % 4294967296))
  | .u64 => .ok (.int .u64 (r % 18446744073709551616))
  | k => .ok (.int k (k.wrap r))
def bits2 (k : IntKind) (a b r : Int) : PR := match k with
  | .u8 => .req ((0 ≤ a ∧ a < 256) ∧ 0 ≤ b ∧ b < 256) (.int .u8 r)
  | .u16 => .req ((0 ≤ a ∧ a < 65536) ∧ 0 ≤ b ∧ b < 65536) (.int .u16 r)
  | .u32 => .req ((0 ≤ a ∧ a < 4294967296) ∧ 0 ≤ b ∧ b < 4294967296) (.int .u32 r)
  | .u64 => .req ((0 ≤ a ∧ a < 18446744073709551616) ∧ 0 ≤ b ∧ b < 18446744073709551616) (.int .u64 r)
  | .i64 => .req ((0 ≤ a ∧ a < 9223372036854775808) ∧ 0 ≤ b ∧ b < 9223372036854775808) (.int .i64 r)
  | _ => .no
def shl1 (k : IntKind) (a b : Int) : PR := match k with
  | .i64 => .req ((0 ≤ b ∧ b ≤ 64) ∧ -9223372036854775808 ≤ a * 2 ^ b.toNat ∧ a * 2 ^ b.toNat ≤ 9223372036854775807) (.int .i64 (a * 2 ^ b.toNat))
  | .u8 => .req (0 ≤ b ∧ b ≤ 8) (.int .u8 (a * 2 ^ b.toNat % 256))
  | .u16 => .req (0 ≤ b ∧ b ≤ 16) (.int .u16 (a * 2 ^ b.toNat % 65536))
  | .u32 => .req (0 ≤ b ∧ b ≤ 32) (.int .u32 (a * 2 ^ b.toNat % 4294967296))
  | .u64 => .req (0 ≤ b ∧ b ≤ 64) (.int .u64 (a * 2 ^ b.toNat % 18446744073709551616))
  | _ => .no
def shr1 (k : IntKind) (a b : Int) : PR := match k with
  | .i64 => .req (0 ≤ b ∧ b ≤ 64) (.int .i64 (a / 2 ^ b.toNat))
  | .u8 => .req (0 ≤ b ∧ b ≤ 8) (.int .u8 (a / 2 ^ b.toNat))
  | .u16 => .req (0 ≤ b ∧ b ≤ 16) (.int .u16 (a / 2 ^ b.toNat))
  | .u32 => .req (0 ≤ b ∧ b ≤ 32) (.int .u32 (a / 2 ^ b.toNat))
  | .u64 => .req (0 ≤ b ∧ b ≤ 64) (.int .u64 (a / 2 ^ b.toNat))
  | _ => .no
def nand2 (a b : Int) : Int := ((a.toNat &&& b.toNat : Nat) : Int)
def nor2 (a b : Int) : Int := ((a.toNat ||| b.toNat : Nat) : Int)
def nxor2 (a b : Int) : Int := ((a.toNat ^^^ b.toNat : Nat) : Int)
def InK (k : IntKind) (a : Int) : Prop := match k with
  | .u8 => 0 ≤ a ∧ a < 256 | .u16 => 0 ≤ a ∧ a < 65536 | .u32 => 0 ≤ a ∧ a < 4294967296 | .u64 => 0 ≤ a ∧ a < 18446744073709551616
  | .i8 => 0 ≤ a ∧ a < 128 | .i16 => 0 ≤ a ∧ a < 32768 | .i32 => 0 ≤ a ∧ a < 2147483648 | .i64 => 0 ≤ a ∧ a < 9223372036854775808
def sameK : IntKind → IntKind → Bool
  | .i8, .i8 | .i16, .i16 | .i32, .i32 | .i64, .i64 | .u8, .u8 | .u16, .u16 | .u32, .u32 | .u64, .u64 => true
  | _, _ => false
def int2 (op : BinOp) (k : IntKind) (a b : Int) : PR := match op with
  | .add => arith k (a + b)
  | .sub => arith k (a - b)
  | .mul => arith k (a * b)
  | .quo => (match k with
    | .i64 => .req (0 ≤ a ∧ 0 < b ∧ a / b ≤ 9223372036854775807) (.int .i64 (a / b))
    | .u8 => .req (0 ≤ a ∧ 0 < b ∧ a / b < 256) (.int .u8 (a / b))
    | .u32 => .req (0 ≤ a ∧ 0 < b ∧ a / b < 4294967296) (.int .u32 (a / b))
    | .u64 => .req (0 ≤ a ∧ 0 < b ∧ a / b < 18446744073709551616) (.int .u64 (a / b))
    | _ => .no)
  | .rem => .req (0 ≤ a ∧ 0 < b) (.int k (a % b))
  | .and => (match k with | .i64 => .no | k => bits2 k a b (nand2 a b))
  | .or => bits2 k a b (nor2 a b)
  | .xor => (match k with | .i64 => .no | k => bits2 k a b (nxor2 a b))
  | .eql => .ok (.bool (decide (a = b)))
  | .neq => .ok (.bool (decide (a ≠ b)))
  | .lss => .ok (.bool (decide (a < b)))
  | .leq => .ok (.bool (decide (a ≤ b)))
  | .gtr => .ok (.bool (decide (a > b)))
  | .geq => .ok (.bool (decide (a ≥ b)))
  | _ => .no
def conv1 (k k' : IntKind) (a : Int) : PR := match k, k' with
  | .i64, .i64 => .req (-9223372036854775808 ≤ a ∧ a ≤ 9223372036854775807) (.int .i64 a)
  | .u8, .i64 | .u8, .u64 | .u8, .u32 | .u8, .u16 | .u8, .i32 | .u8, .u8 => .req (0 ≤ a ∧ a < 256) (.int k' a)
  | .u16, .i64 | .u16, .u64 | .u16, .u32 | .u16, .i32 => .req (0 ≤ a ∧ a < 65536) (.int k' a)
  | .u32, .i64 | .u32, .u64 | .u32, .u32 => .req (0 ≤ a ∧ a < 4294967296) (.int k' a)
  | _, .u8 => .ok (.int .u8 (a % 256))
  | _, .u16 => .ok (.int .u16 (a % 65536))
  | _, .u32 => .ok (.int .u32 (a % 4294967296))
  | _, .u64 => .ok (.int .u64 (a % 18446744073709551616))
  | _, k' => .ok (.int k' (k'.wrap a))
def str2 (op : BinOp) (a b : List UInt8) : PR := match op with
  | .eql => .ok (.bool (decide (a = b)))
  | .neq => .ok (.bool (decide (a ≠ b)))
  | .add => .req (a.length + b.length ≤ 4611686018427387904) (str (a ++ b))
  | _ => .no
def bool2 (op : BinOp) (a b : Bool) : PR := match op with
  | .eql => .ok (.bool (decide (a = b)))
  | .neq => .ok (.bool (decide (a ≠ b)))
  | _ => .no
def nthF : List (TypeId × Nat × Nat) → Nat → Option (TypeId × Nat × Nat)
  | f :: _, 0 => some f
  | _ :: r, n + 1 => nthF r n
  | [], _ => none
def setAt : List Value → Nat → List Value → List Value
  | cs, o, vs => cs.take o ++ vs ++ cs.drop (o + vs.length)
def cutA (a : Option Addr) (l c s : Nat) : Option Addr := if c = l then a else a.map (·.add (l * s))
def un (T : TT) (op : UnOp) (v : Value) : PR := match op, v with
  | .not, .bool b => .ok (.bool (!b))
  | .neg, .int .i64 n => .req (-9223372036854775808 ≤ 0 - n ∧ 0 - n ≤ 9223372036854775807) (.int .i64 (0 - n))
  | _, _ => .no
def bin (T : TT) (op : BinOp) (t : TypeId) (x y : Value) : PR := match x, y with
  | .int k a, .int k2 b => (match op with
    | .shl => shl1 k a b
    | .shr => shr1 k a b
    | op => bif sameK k k2 then int2 op k a b else .no)
  | .string ⟨⟨a⟩⟩, .string ⟨⟨b⟩⟩ => str2 op a b
  | .bool a, .bool b => match T.get t with
    | some ⟨.bool, _, _⟩ => bool2 op a b
    | _ => .no
  | .pointer (some _), .pointer none => match T.get t, op with
    | some ⟨.ptr _, _, _⟩, .eql => .ok (.bool false)
    | some ⟨.ptr _, _, _⟩, .neq => .ok (.bool true)
    | _, _ => .no
  | _, _ => .no
def fld (T : TT) (s : TypeId) (cs : List Value) (i : Nat) : PR := match T.get s with
  | some ⟨.struct fs, _, _⟩ => match nthF fs i with
    | some (t, o, z) => match T.get t with
      | some ti => bif ti.u.row then .ok (.agg ((cs.drop o).take z).toArray) else match nthV cs o with
        | some v => .ok v
        | none => .no
      | none => .no
    | none => .no
  | _ => .no
def fldA (T : TT) (s : TypeId) (b o i : Nat) : PR := match T.get s with
  | some ⟨.struct fs, _, _⟩ => match nthF fs i with
    | some (_, o', z) => bif Nat.blt 0 z then .ok (.pointer (some ⟨b, o + o', none⟩)) else .no
    | none => .no
  | _ => .no
def bi1 (T : TT) (b : Builtin) (t : TypeId) (x : Value) : PR := match b, x with
  | .len, .slice _ n _ => match T.get t with
    | some ⟨.slice _, _, _⟩ => .ok (.int .i64 (n : Int))
    | _ => .no
  | .cap, .slice _ _ c => match T.get t with
    | some ⟨.slice _, _, _⟩ => .ok (.int .i64 (c : Int))
    | _ => .no
  | .len, .string ⟨⟨l⟩⟩ => match T.get t with
    | some ⟨.str, _, _⟩ => .ok (.int .i64 (l.length : Int))
    | _ => .no
  | _, _ => .no
def bi2 (b : Builtin) (x y : Value) : PR := match b, x, y with
  | .min, .int k a, .int k2 b => bif sameK k k2 then .ok (.int k (Min.min a b)) else .no
  | .max, .int k a, .int k2 b => bif sameK k k2 then .ok (.int k (Max.max a b)) else .no
  | _, _, _ => .no
def cutS (T : TT) (t : TypeId) (s : List UInt8) (l h : Int) : PR := match T.get t with
  | some ⟨.str, _, _⟩ => .req (0 ≤ l ∧ l ≤ h ∧ h ≤ s.length) (str ((s.drop l.toNat).take (h.toNat - l.toNat)))
  | _ => .no
def cutV (T : TT) (t : TypeId) (a : Option Addr) (n c : Nat) (l h : Int) : PR := match T.get t with
  | some ⟨.slice e, _, _⟩ => match T.get e with
    | some te => .req (0 ≤ l ∧ l ≤ h ∧ h ≤ c) (.slice (cutA a l.toNat c te.size) (h.toNat - l.toNat) (c - l.toNat))
    | _ => .no
  | _ => .no
def isTF : Operand → Operand → Bool
  | .const (.bool true), .const (.bool false) => true
  | _, _ => false
def pickV (env : Env) (b : Bool) (x y : Operand) : PR := match isTF x y with
  | true => .ok (.bool b)
  | false => match b with
    | true => (match ev env x with | some v => .ok v | none => .no)
    | false => (match ev env y with | some v => .ok v | none => .no)
def pure1 (T : TT) (op : Op) (env : Env) : PR := match op with
  | .move x => match ev env x with | some v => .ok v | none => .no
  | .assign x => match ev env x with | some v => .ok v | none => .no
  | .pick c x y => match ev env c with
    | some (.bool b) => pickV env b x y
    | _ => .no
  | .nilCheck x => match ev env x with | some (.pointer (some a)) => .ok (.pointer (some a)) | _ => .no
  | .extract x i => match ev env x with
    | some (.tuple ⟨vs⟩) => (match nthV vs i with | some v => .ok v | none => .no)
    | _ => .no
  | .unOp op _ x => match ev env x with | some v => un T op v | none => .no
  | .binOp op t x y _ => match ev env x, ev env y with | some v, some u => bin T op t v u | _, _ => .no
  | .convert s t x => match ev env x with
    | some (.int k a) => (match T.get s, T.get t with | some _, some ⟨.int k', _, _⟩ => conv1 k k' a | _, _ => .no)
    | _ => .no
  | .field s x i => match ev env x with
    | some (.agg ⟨cs⟩) => fld T s cs i
    | _ => .no
  | .fieldAddr s x i => match ev env x with
    | some (.pointer (some ⟨b, o, none⟩)) => fldA T s b o i
    | _ => .no
  | .index t x ix => match ev env x, ev env ix with
    | some (.string ⟨⟨l⟩⟩), some (.int _ i) => (match T.get t with | some ⟨.str, _, _⟩ => .req (0 ≤ i ∧ i < l.length) (u8 l[i.toNat]!) | _ => .no)
    | _, _ => .no
  | .slice t x (some lo) (some hi) none => match ev env x, ev env lo, ev env hi with
    | some (.string ⟨⟨l⟩⟩), some (.int _ a), some (.int _ b) => cutS T t l a b
    | some (.slice s n c), some (.int _ a), some (.int _ b) => cutV T t s n c a b
    | _, _, _ => .no
  | .slice t x none (some hi) none => match ev env x, ev env hi with
    | some (.string ⟨⟨l⟩⟩), some (.int _ b) => (match T.get t with | some ⟨.str, _, _⟩ => .req (0 ≤ b ∧ b ≤ l.length) (str (l.take b.toNat)) | _ => .no)
    | some (.slice s n c), some (.int _ b) => cutV T t s n c 0 b
    | _, _ => .no
  | .slice t x (some lo) none none => match ev env x, ev env lo with
    | some (.string ⟨⟨l⟩⟩), some (.int _ a) => (match T.get t with | some ⟨.str, _, _⟩ => .req (0 ≤ a ∧ a ≤ l.length) (str (l.drop a.toNat)) | _ => .no)
    | some (.slice s n c), some (.int _ a) => cutV T t s n c a n
    | _, _ => .no
  | .slice t x none none none => match ev env x with
    | some (.slice s n c) => cutV T t s n c 0 n
    | _ => .no
  | .makeFunc fn ⟨xs⟩ ⟨ys⟩ => match evs env xs, evs env ys with
    | some vs, some us => .ok (.func fn ⟨vs⟩ ⟨us⟩)
    | _, _ => .no
  | .call ⟨.builtin b, ⟨[x]⟩, ⟨[t]⟩⟩ => match ev env x with | some v => bi1 T b t v | none => .no
  | .call ⟨.builtin b, ⟨[x, y]⟩, _⟩ => match ev env x, ev env y with | some v, some u => bi2 b v u | _, _ => .no
  | _ => .no
end Go.E
