/- Slices put together, made, appended to; strings of bytes; over memory told by parts. No program in sight. -/
import Derived.Test.YtknfebfdehdapaaDoorV6
namespace Go.E
open Go
set_option linter.unusedVariables false
set_option linter.unusedSimpArgs false
section
variable {P : Program} {T : TT} [hT : TTab P T] {ty : TypeId} {env : Env} {ro : Ro} {own : Chs} {K : Value → Ro → Chs → Prop}
theorem holds_newly {h h' : Heap} {e n s : Nat} {cs : List Value} (hn : Newly (.cells cs.toArray e) h h') (hl : cs.length = n * s) (hmx : n ≤ maxLen) : (Chunk.sl (some ⟨h.size, 0, none⟩) n n e s cs).holds (hm h') :=
  ⟨hl, Nat.le_refl _, hmx, .inr ⟨h.size, [], rfl, by simpa [RowR, E.hm] using hn.2.1, by simpa using hl⟩⟩
theorem OpOk.buildSlice {t e n : Nat} {ps : List (Nat × Operand)} {vs : List Value} {s : Nat} (hv : evs env (ps.map (·.2)) = some vs) (hp : ps.map (·.1) = List.range n) (ht : elemOf T t = some (e, s))
    (hn : Nat.ble (n * s) 1048576 = true) (h1 : vs.all (fun v => Nat.beq v.cells.size s) = true) (hk : ∀ b, K (.slice (some ⟨b, 0, none⟩) n n) ro (.sl (some ⟨b, 0, none⟩) n n e s (flat vs) :: own)) :
    OpOk P (.buildSlice t n ps.toArray) ty env ro own K := by
  have h00 := elemOf_spec ht
  clear ht
  obtain ⟨z1, z2, te, ht, he, rfl, hzs, hpos'⟩ := h00
  obtain ⟨du, j, z, hi⟩ := tiOf.all (hT.ok.get he)
  have hn' : n * te.size ≤ 1048576 := by simpa using hn
  have h1' : ∀ v ∈ vs, v.cells.size = te.size := fun v hv => by have := List.all_eq_true.1 h1 v hv; simpa using this
  have hle : n ≤ n * te.size := Nat.le_mul_of_pos_right n hpos'
  have hlen : vs.length = n := by
    have h3 : (ps.map (·.1)).length = n := by rw [hp]; simp
    have h4 : ∀ (xs : List Operand) (us : List Value), evs env xs = some us → us.length = xs.length := by
      intro xs
      induction xs with
      | nil => intro us h; simp [evs] at h; subst h; rfl
      | cons x r ih =>
        intro us h
        unfold evs at h
        split at h
        · rename_i h5 h6; cases h; simp [ih _ h6]
        · cases h
    have := h4 _ _ hv
    simp at this h3; omega
  exact ⟨fun h hs d pos af g => (Eff.buildSlice hv hp (hT.ok.slice ht) hi.info hi.zero hi.size.symm hpos' hn' h1').mono (by
    rintro _ h' ⟨rfl, hnew⟩
    refine ⟨ro, _, Le.refl _, hs.new (c' := .sl (some ⟨h.size, 0, none⟩) n n e te.size (flat vs)) hnew.2.2 (holds_newly hnew ?_ ?_) (by simp [Chunk.fp]) (by simp [Chunk.fp]), hk h.size⟩
    · rw [flat_length te.size vs h1', hlen]
    · unfold maxLen; omega)⟩
/-- Of one cell each. -/
theorem OpOk.buildSlice1 {t e n : Nat} {ps : List (Nat × Operand)} {vs : List Value} (hv : evs env (ps.map (·.2)) = some vs) (hp : ps.map (·.1) = List.range n) (ht : elemOf T t = some (e, 1))
    (hn : Nat.ble n 1048576 = true) (h1 : vs.all (fun v => v.oneCell') = true) (hk : ∀ b, K (.slice (some ⟨b, 0, none⟩) n n) ro (.sl (some ⟨b, 0, none⟩) n n e 1 vs :: own)) :
    OpOk P (.buildSlice t n ps.toArray) ty env ro own K := by
  have h1' : ∀ v ∈ vs, v.oneCell' = true := List.all_eq_true.1 h1
  refine OpOk.buildSlice hv hp ht (by simpa using hn) (List.all_eq_true.2 fun v hv => by rw [oneCell_of (h1' v hv)]; rfl) (fun b => ?_)
  rw [flat_one _ h1']
  exact hk b
theorem OpOk.make1 {t e : TypeId} {x y : Operand} {n m : Int} {k k' : IntKind} {z : Value} (hx : ev env x = some (.int k n)) (hy : ev env y = some (.int k' m)) (ht : zero1 T t = some (e, z)) (hn : 0 ≤ n ∧ n ≤ m ∧ m ≤ 134217728)
    (hk : ∀ b, K (.slice (some ⟨b, 0, none⟩) n.toNat m.toNat) ro (.sl (some ⟨b, 0, none⟩) n.toNat m.toNat e 1 (List.replicate n.toNat z) :: own)) : OpOk P (.makeSlice t x y) ty env ro own K := by
  have h00 := zero1_spec ht
  clear ht
  obtain ⟨z1, z2, u, ht, he, hz1⟩ := h00
  obtain ⟨du, j, z', hi⟩ := tiOf.all (hT.ok.get he)
  have hzz : z'.cells = #[z] := Array.ext' hi.cells.symm
  exact ⟨fun h hs d pos af g => .mk fun ρ w hρ hw => by
    subst hw
    have hsz : j.size = 1 := hi.size.symm
    have hbytes : (j.bytes : Int) * m ≤ 140737488355328 := by
      have h1 : (j.bytes : Int) ≤ 1048576 := by have := hi.bytes; omega
      calc (j.bytes : Int) * m ≤ 1048576 * 134217728 := Int.mul_le_mul h1 hn.2.2 (by omega) (by omega)
        _ ≤ 140737488355328 := by decide
    have hr := run_make (P := P) w t e j z' (hT.ok.slice ht) hi.info hi.zero k k' n m hn.1 hn.2.1 (by omega) (by omega)
    have e1 : (madeCells z'.cells (m.toNat * j.size)) = (List.replicate m.toNat z).toArray := by
      rw [hsz, hzz, Nat.mul_one]
      apply Array.ext'
      rw [toList_madeCells_one]
    rw [e1] at hr
    have hnm : n.toNat ≤ m.toNat := by omega
    refine ⟨_, { w with heap := w.heap.push (.cells (List.replicate m.toNat z).toArray e) }, .inl ?_, ⟨rfl, rfl, rfl, rfl⟩, ro, _, Le.refl _,
      hs.new (c' := .sl (some ⟨w.heap.size, 0, none⟩) n.toNat m.toNat e 1 (List.replicate n.toNat z)) (newly_push w _).2.2 ⟨by simp, hnm, by unfold maxLen; omega, .inr ⟨w.heap.size, List.replicate (m.toNat - n.toNat) z, rfl, ?_, by rw [List.length_replicate, List.length_replicate]; omega⟩⟩ (by simp [Chunk.fp]) (by simp [Chunk.fp]), hk w.heap.size⟩
    · simp only [execOp, hρ _ _ hx, hρ _ _ hy, Sem.run_bind]
      rw [hr]
      simp
    · unfold RowR hm
      rw [List.replicate_append_replicate, show n.toNat + (m.toNat - n.toNat) = m.toNat by omega]
      simp⟩
/-- What is appended: read of what lies there. -/
theorem appendCore {x y : Operand} {t e : TypeId} {te : TI} {z1 : Nat} {z2 : List Value} {v : Value} {a2 : Option Addr} {n m c2 : Nat} {cs ys : List Value} (hx : ev env x = some v) (hy : ev env y = some (.slice a2 m c2)) (ht : T.get t = some ⟨.slice e, z1, z2⟩) (he : T.get e = some te)
    (hzs : te.zero.length = te.size) (hpos : 0 < te.size) {h : Heap} (ho : Own h 0 e te.size v n cs) (hr : Rd h (.slice a2 m c2) m ys) (hl : ys.length = m * te.size) (h1 : ∀ u ∈ ys, u.oneCell' = true) (hle : n + m ≤ 134217728) {d : Option Nat} {pos : String} {af : Array Edge} {g : Option (Nat × Bool)} :
    Eff P ⟨d, .call ⟨.builtin .append, #[x, y], #[t, t]⟩, ty, pos, af, g⟩ env h (fun v' h' => Appended 0 e te.size v (n + m) (cs ++ ys) h v' h') := by
  obtain ⟨du, j, z, hi⟩ := tiOf.all (hT.ok.get he)
  exact Eff.appendOwn hx hy (hT.ok.slice ht) hi.info hi.zero hi.size.symm hi.bytes (by have := hi.cells; rw [← hzs, this]; simp) hpos ho hr hl h1 hle (Nat.zero_le _)
theorem Appended.sat {e s n m c : Nat} {a : Option Addr} {cs ys : List Value} {h h' : Heap} {v' : Value} {r : Chs} (hs : Sat ro (.sl a n c e s cs :: r) h) (ha : Appended 0 e s (.slice a n c) (n + m) (cs ++ ys) h v' h') :
    ∃ a' c', v' = .slice a' (n + m) c' ∧ Sat ro (.sl a' (n + m) c' e s (cs ++ ys) :: r) h' := by
  obtain ⟨ho, h2, h3, h4, h5⟩ := ha
  obtain ⟨a', c', rfl, hc⟩ := Chunk.ofOwn ho
  have hob : ∀ b, (Value.slice a n c).ownBlock = some b → b ∈ (Chunk.sl a n c e s cs).fp := by
    intro b hb
    rcases hs.cons.1.2.2.2 with ⟨rfl, _⟩ | ⟨b', sp, rfl, _⟩
    · simp [Value.ownBlock] at hb
    · simp [Value.ownBlock] at hb; subst hb; simp [Chunk.fp]
  refine ⟨a', c', rfl, hs.put (fun b hb hn => h3 b hb (fun e => hn (hob b e))) hc (fun b hb => ?_) ?_⟩
  · rcases hc.2.2.2 with ⟨rfl, _⟩ | ⟨b', sp, rfl, _⟩
    · simp [Chunk.fp] at hb
    · simp [Chunk.fp] at hb
      subst hb
      rcases h5 b rfl with h6 | h6
      · exact .inl (hob b h6)
      · exact .inr h6
  · rcases hc.2.2.2 with ⟨rfl, _⟩ | ⟨b', sp, rfl, _⟩ <;> simp [Chunk.fp]
theorem OpOk.append {x y : Operand} {t t2 e : TypeId} {s : Nat} {a a2 : Option Addr} {n c m c2 : Nat} {cs ys : List Value} {f : Chunk → Chs} (hx : ev env x = some (.slice a n c)) (hy : ev env y = some (.slice a2 m c2)) (ht : elemOf T t = some (e, s)) (h2 : Nat.beq t2 t = true)
    [hb : HasSl own a n c e s cs f] (hr : Rds ro own a2 m c2 s ys) (h1 : ∀ u ∈ ys, u.oneCell' = true) (hle : n + m ≤ 134217728)
    (hk : ∀ a' c', n + m ≤ c' → c' ≤ maxLen → K (.slice a' (n + m) c') ro (f (.sl a' (n + m) c' e s (cs ++ ys)))) : OpOk P (.call ⟨.builtin .append, #[x, y], #[t, t2]⟩) ty env ro own K := by
  have := Nat.eq_of_beq_eq_true h2
  subst this
  have h00 := elemOf_spec ht
  clear ht
  obtain ⟨z1, z2, te, ht, he, rfl, hzs, hpos'⟩ := h00
  exact ⟨fun h hs d pos af g => (appendCore hx hy ht he hzs hpos' (Chunk.own ((hb.repl (.obj 0 default)).get hs)) (hr.run h hs) hr.len h1 hle).mono (by
    intro v' h' ha
    obtain ⟨r, p1, p2⟩ := (hb.repl (.obj 0 default)).perm
    obtain ⟨a', c', rfl, hs'⟩ := ha.sat (hs.perm p1)
    obtain ⟨r2, p3, p4⟩ := (hb.repl (.sl a' (n + m) c' e te.size (cs ++ ys))).perm
    have hrr : r.Perm r2 := (List.perm_cons _).1 (p1.symm.trans p3)
    exact ⟨ro, _, Le.refl _, hs'.perm ((hrr.cons _).trans p4.symm), hk a' c' hs'.cons.1.2.1 hs'.cons.1.2.2.1⟩)⟩
/-- .. onto one of no elements. -/
theorem OpOk.appendE {x y : Operand} {t t2 e : TypeId} {s : Nat} {a a2 : Option Addr} {c m c2 : Nat} {ys : List Value} {f : Chunk → Chs} (hx : ev env x = some (.slice a 0 c)) (hy : ev env y = some (.slice a2 m c2)) (ht : elemOf T t = some (e, s)) (h2 : Nat.beq t2 t = true)
    [hb : HasSl own a 0 c e s [] f] (hr : Rds ro own a2 m c2 s ys) (h1 : ∀ u ∈ ys, u.oneCell' = true) (hle : m ≤ 134217728)
    (hk : ∀ a' c', m ≤ c' → c' ≤ maxLen → K (.slice a' m c') ro (f (.sl a' m c' e s ys))) : OpOk P (.call ⟨.builtin .append, #[x, y], #[t, t2]⟩) ty env ro own K :=
  OpOk.append hx hy ht h2 hr h1 (by omega) (fun a' c' h3 h4 => by have := hk a' c' (by omega) h4; simpa using this)
theorem one_u8 (l : List UInt8) : ∀ u ∈ l.map u8, u.oneCell' = true := fun u hu => by obtain ⟨c, _, rfl⟩ := List.mem_map.1 hu; rfl
theorem one_int (k : IntKind) (l : List Int) : ∀ u ∈ l.map (Value.int k), u.oneCell' = true := fun u hu => by obtain ⟨c, _, rfl⟩ := List.mem_map.1 hu; rfl
/-- .. some elements that are told, which lie in a new part of their own. -/
theorem OpOk.append1 {x y : Operand} {t t2 e : TypeId} {s : Nat} {a a2 : Option Addr} {n c m c2 : Nat} {e2 : TypeId} {cs ys : List Value} {own' : Chs} {f : Chunk → Chs} (hx : ev env x = some (.slice a n c)) (hy : ev env y = some (.slice a2 m c2)) (ht : elemOf T t = some (e, s)) (h2 : Nat.beq t2 t = true)
    (hown : own = .sl a2 m c2 e2 s ys :: own') [hb : HasSl own' a n c e s cs f] (h1 : ys.all (fun u => u.oneCell') = true) (hle : n + m ≤ 134217728)
    (hk : ∀ a' c', n + m ≤ c' → c' ≤ maxLen → K (.slice a' (n + m) c') ro (f (.sl a' (n + m) c' e s (cs ++ ys)))) : OpOk P (.call ⟨.builtin .append, #[x, y], #[t, t2]⟩) ty env ro own K := by
  have := Nat.eq_of_beq_eq_true h2
  subst this
  subst hown
  have h00 := elemOf_spec ht
  clear ht
  obtain ⟨z1, z2, te, ht, he, rfl, hzs, hpos'⟩ := h00
  exact ⟨fun h hs d pos af g => (appendCore hx hy ht he hzs hpos' (Chunk.own ((hb.repl (.obj 0 default)).get hs.drop)) (Chunk.own hs.cons.1).rd hs.cons.1.1 (List.all_eq_true.1 h1) hle).mono (by
    intro v' h' ha
    obtain ⟨r, p1, p2⟩ := (hb.repl (.obj 0 default)).perm
    obtain ⟨a', c', rfl, hs'⟩ := ha.sat (hs.drop.perm p1)
    obtain ⟨r2, p3, p4⟩ := (hb.repl (.sl a' (n + m) c' e te.size (cs ++ ys))).perm
    have hrr : r.Perm r2 := (List.perm_cons _).1 (p1.symm.trans p3)
    exact ⟨ro, _, Le.refl _, hs'.perm ((hrr.cons _).trans p4.symm), hk a' c' hs'.cons.1.2.1 hs'.cons.1.2.2.1⟩)⟩
/-- .. onto nothing. -/
theorem OpOk.append0 {x y : Operand} {t t2 e : TypeId} {s : Nat} {a2 : Option Addr} {m c2 : Nat} {e2 : TypeId} {ys : List Value} {own' : Chs} (hx : ev env x = some (.slice none 0 0)) (hy : ev env y = some (.slice a2 m c2)) (ht : elemOf T t = some (e, s)) (h2 : Nat.beq t2 t = true)
    (hown : own = .sl a2 m c2 e2 s ys :: own') (h1 : ys.all (fun u => u.oneCell') = true) (hle : m ≤ 134217728)
    (hk : ∀ a' c', m ≤ c' → c' ≤ maxLen → K (.slice a' m c') ro (.sl a' m c' e s ys :: own')) : OpOk P (.call ⟨.builtin .append, #[x, y], #[t, t2]⟩) ty env ro own K := by
  have := Nat.eq_of_beq_eq_true h2
  subst this
  subst hown
  have h00 := elemOf_spec ht
  clear ht
  obtain ⟨z1, z2, te, ht, he, rfl, hzs, hpos'⟩ := h00
  exact ⟨fun h hs d pos af g => (appendCore (n := 0) (cs := []) hx hy ht he hzs hpos' (Own.nil h 0 e te.size) (Chunk.own hs.cons.1).rd hs.cons.1.1 (List.all_eq_true.1 h1) (by omega)).mono (by
    intro v' h' ha
    have hs0 := hs.drop.nilc e te.size
    obtain ⟨a', c', rfl, hs'⟩ := ha.sat (n := 0) (c := 0) hs0
    simp only [Nat.zero_add, List.nil_append] at hs' ⊢
    exact ⟨ro, _, Le.refl _, hs', hk a' c' hs'.cons.1.2.1 hs'.cons.1.2.2.1⟩)⟩
/-- .. a slice onto nothing. -/
theorem OpOk.appendN {x y : Operand} {t t2 e : TypeId} {s : Nat} {a2 : Option Addr} {m c2 : Nat} {ys : List Value} (hx : ev env x = some (.slice none 0 0)) (hy : ev env y = some (.slice a2 m c2)) (ht : elemOf T t = some (e, s)) (h2 : Nat.beq t2 t = true)
    (hr : Rds ro own a2 m c2 s ys) (h1 : ∀ u ∈ ys, u.oneCell' = true) (hle : m ≤ 134217728)
    (hk : ∀ a' c', m ≤ c' → c' ≤ maxLen → K (.slice a' m c') ro (.sl a' m c' e s ys :: own)) : OpOk P (.call ⟨.builtin .append, #[x, y], #[t, t2]⟩) ty env ro own K := by
  have := Nat.eq_of_beq_eq_true h2
  subst this
  have h00 := elemOf_spec ht
  clear ht
  obtain ⟨z1, z2, te, ht, he, rfl, hzs, hpos'⟩ := h00
  exact ⟨fun h hs d pos af g => (appendCore (n := 0) (cs := []) hx hy ht he hzs hpos' (Own.nil h 0 e te.size) (hr.run h hs) hr.len h1 (by omega)).mono (by
    intro v' h' ha
    have hs0 := hs.nilc e te.size
    obtain ⟨a', c', rfl, hs'⟩ := ha.sat (n := 0) (c := 0) hs0
    simp only [Nat.zero_add, List.nil_append] at hs' ⊢
    exact ⟨ro, _, Le.refl _, hs', hk a' c' hs'.cons.1.2.1 hs'.cons.1.2.2.1⟩)⟩
theorem OpOk.toStr {s t e : TypeId} {x : Operand} {a : Option Addr} {c n : Nat} {l : List UInt8} {z1 z3 z5 : Nat} {z2 z4 z6 : List Value} (hx : ev env x = some (.slice a n c)) (hs : T.get s = some ⟨.slice e, z1, z2⟩) (he : T.get e = some ⟨.int .u8, z3, z4⟩) (ht : T.get t = some ⟨.str, z5, z6⟩) (hr : Rds ro own a n c 1 (l.map u8))
    (hk : K (str l) ro own) : OpOk P (.convert s t x) ty env ro own K := by
  have hn : n = l.length := by have := hr.len; simp at this; exact this.symm
  subst hn
  exact OpOk.pu (fun h hsat d pos af g => Pu.toStr hx (hT.ok.slice hs) (hT.ok.int he) (hT.ok.str ht) (hr.run h hsat)) hk
end
end Go.E
