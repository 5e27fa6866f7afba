/- What a strings.Builder does; calls of functions without a body. No program in sight. -/
import Derived.Test.YtknfebfdehdapaaDoorCE
import Derived.Lib.Builder
import Derived.Lib.UnsafeStr
import Derived.Lib.AppendStr
namespace Go.E
open Go
set_option linter.unusedVariables false
set_option linter.unusedSimpArgs false
section
variable {P : Program} {f : FuncId} {fn : Func} {ro : Ro} {own : Chs} {K : Value → Ro → Chs → Prop}
theorem CallOk.ext {e : Array Value → Sem Value} (hf : P.funcs[f]? = some fn) (hname : (fn.name == "runtime.NumGoroutine") = false) (hb : fn.body.isNone = true) (hn : Extern.findNext fn = none) (he : Extern.find fn = some e) {args : Array Value} {v : Value} (hr : ∀ w, (e args).run P w = .ok v w) (hk : K v ro own) : CallOk P f args ro own K :=
  CallOk.at0 (fun w _ => by rw [run_callFunc_extern hf hname hb hn he, hr]; rfl) hk
end
section
variable {P : Program} {T : TT} [hT : TTab P T] {ty : TypeId} {env : Env} {ro : Ro} {own : Chs} {K : Value → Ro → Chs → Prop}
theorem CallOk.sup {f : FuncId} {args : Array Value} {own0 : Chs} (hs : Sup own own0) (h : CallOk P f args ro own0 K) : CallOk P f args ro own K := ⟨fun w hw => h.run w (hw.sup hs)⟩
theorem OpOk.know {op : Op} (p : Prop) (hp : ∀ h, Sat ro own h → p) (h : p → OpOk P op ty env ro own K) : OpOk P op ty env ro own K :=
  ⟨fun g hs => (h (hp g hs)).run g hs⟩
/-- A slice of one's own that has elements lies somewhere. -/
theorem Sat.slSome {h : Heap} {a : Option Addr} {n c s : Nat} {t : TypeId} {cs : List Value} {r : Chs} (ht : Take own (.sl a n c t s cs) r) (hs : Sat ro own h) (hn : n ≠ 0) : ∃ b, a = some ⟨b, 0, none⟩ := by
  rcases (ht.sat hs).cons.1.2.2.2 with ⟨_, h0, _⟩ | ⟨b, _, h1, _⟩
  · exact absurd h0 hn
  · exact ⟨b, h1⟩
theorem OpOk.neqPtrSame {t yt te : TypeId} {x y : Operand} {a : Addr} (hx : ev env x = some (.pointer (some a))) (hy : ev env y = some (.pointer (some a))) (hp : P.underlying t = some (.pointer te)) (hte : (P.info? te).isSome = true) (hk : K (.bool false) ro own) : OpOk P (.binOp .neq t x y yt) ty env ro own K :=
  OpOk.pu (fun h hs d pos af g => .mk fun ρ w hρ _ => by
    obtain ⟨j, hte⟩ := Option.isSome_iff_exists.1 hte
    have := Lib.run_neq_ptr_same (P := P) w a hp hte
    simp [execOp, hρ _ _ hx, hρ _ _ hy, eqGuard, this, Result.andThen]) hk
theorem OpOk.eqlPtrNil {t yt : TypeId} {x y : Operand} (hx : ev env x = some (.pointer none)) (hy : ev env y = some (.pointer none)) (h : P.underlying t = some (.pointer (P.pointee t))) (hk : K (.bool true) ro own) : OpOk P (.binOp .eql t x y yt) ty env ro own K :=
  OpOk.pu (fun h' hs d pos af g => .mk fun ρ w hρ _ => by
    have := run_eql_pointer_nil (P := P) w t none h
    simp [execOp, hρ _ _ hx, hρ _ _ hy, eqGuard, this, Result.andThen]) hk
theorem OpOk.fromUnsafe {s t u : TypeId} {x : Operand} {b : Nat} {t0 : TypeId} {cs : List Value} {f : Chunk → Chs} (hx : ev env x = some (.pointer (some ⟨b, 0, none⟩))) (hs : P.underlying s = some .unsafePointer) (ht : P.underlying t = some (.pointer u)) (hu : (P.info? u).isSome = true)
    [hb : HasBlk own b t0 cs f] (hl : liesAt P P.depth t0 (cs.length / P.cellsOf t0) 0 u 1 = true) (hk : K (.pointer (some ⟨b, 0, none⟩)) ro own) : OpOk P (.convert s t x) ty env ro own K :=
  OpOk.pu (fun h hs' d pos af g => .mk fun ρ w hρ hw => by
    have hrow : h[b]? = some (.cells cs.toArray t0 (0, 0)) := (hb.repl (.obj 0 default)).get hs'
    subst hw
    obtain ⟨j, hu⟩ := Option.isSome_iff_exists.1 hu
    have hsh : w.shape? b = some (t0, cs.length) := by simp [World.shape?, hrow]
    have := Lib.run_from_unsafe (P := P) w ⟨b, 0, none⟩ hs ht hu hsh hl
    simp [execOp, hρ _ _ hx, this, Result.andThen]) hk
theorem strCells_eq (l : List UInt8) : Lib.strCells ⟨⟨l⟩⟩ = l.map u8 := rfl
/-- A text behind a slice of bytes of one's own. -/
theorem OpOk.appendS {x y : Operand} {t t2 e : TypeId} {a : Option Addr} {n c : Nat} {cs : List Value} {l : List UInt8} {f : Chunk → Chs} (hx : ev env x = some (.slice a n c)) (hy : ev env y = some (str l)) (ht : P.underlying t = some (.slice e)) (hu : P.underlying t2 = some .string) (hi0 : (P.info? e).map (fun i => (i.zero, i.size, i.bytes)) = some (some (.int .u8 0), 1, 1))
    [hb : HasSl own a n c e 1 cs f] (hle : n + l.length ≤ 134217728)
    (hk : ∀ a' c', n + l.length ≤ c' → c' ≤ maxLen → K (.slice a' (n + l.length) c') ro (f (.sl a' (n + l.length) c' e 1 (cs ++ l.map u8)))) : OpOk P (.call ⟨.builtin .append, #[x, y], #[t, t2]⟩) ty env ro own K :=
  ⟨fun h hs d pos af g => .mk fun ρ w hρ hw => by
    subst hw
    obtain ⟨i, hi, hi1⟩ := Option.map_eq_some_iff.1 hi0
    simp only [Prod.mk.injEq] at hi1
    obtain ⟨hz, hsz, hby⟩ := hi1
    obtain ⟨r, p1, p2⟩ := (hb.repl (.obj 0 default)).perm
    have ho := Chunk.own ((hb.repl (.obj 0 default)).get hs)
    have hown : w.ownsRow 0 e 1 (.slice a n c) n cs := ho
    obtain ⟨v', w', h1, h2, h3, h4⟩ := Lib.run_append_own_string (P := P) w 0 t t2 ty e i ht hu hi hz hsz hby (.slice a n c) n cs hown ⟨⟨l⟩⟩ (by unfold maxLen; show n + l.length ≤ _; omega) (by show n + l.length ≤ _; omega) (Nat.zero_le _)
    have key5 : ∀ k, v'.ownBlock = some k → (Value.slice a n c).ownBlock = some k ∨ w.heap.size ≤ k := by
      intro k hk
      rcases hown.2 with ⟨hv, h0⟩ | ⟨g', cap, cur, hv, _, hg, hnc, hcm, hcs, htake⟩
      · cases hv
        by_cases hm : l.length = 0
        · have := h4.2 ⟨rfl, hm⟩
          subst this
          simp [Value.ownBlock] at hk
        · have hr := run_append_nil_string (P := P) w t t2 ty e i (.int .u8 0) ht hu hi hz ⟨⟨l⟩⟩ (by show 0 < l.length; omega) (by show (l.length : Int) ≤ _; omega) (by rw [hby]; show l.length * 1 ≤ _; omega)
          rw [hr] at h1
          injection h1 with h1 _
          subst h1
          simp [Value.ownBlock] at hk
          exact .inr (by omega)
      · cases hv
        by_cases hroom : n + l.length ≤ c
        · have hr := Lib.run_append_room_string (P := P) w t t2 ty e i ht hu hi hsz g' n c cur hg ⟨⟨l⟩⟩ hroom (by show n + l.length ≤ _; omega)
          rw [hr] at h1
          injection h1 with h1 _
          subst h1
          exact .inl hk
        · have holds : ∀ j u, cs[j]? = some u → w.cell? ((⟨g', 0, none⟩ : Addr).add j) = some u := hown.cells (g := g') rfl
          have hr := Lib.run_append_grow_string (P := P) w t t2 ty e i (.int .u8 0) ht hu hi hz ⟨g', 0, none⟩ n c cs (by rw [hsz]; simpa using hown.1) holds ⟨⟨l⟩⟩ (by show c < n + l.length; omega) (by show ((n + l.length : Nat) : Int) ≤ _; omega) (by rw [hby]; exact growslice_fits (by show c < n + l.length; omega) (by show (n + l.length) * 1 ≤ _; omega))
          rw [hr] at h1
          injection h1 with h1 _
          subst h1
          simp [Value.ownBlock] at hk
          exact .inr (by omega)
    have hA : Appended 0 e 1 (.slice a n c) (n + l.length) (cs ++ l.map u8) w.heap v' w'.heap :=
      ⟨h2, h3.size, fun k hk hne => h3.block k hk (fun e => hne e.symm), fun e => by
        obtain ⟨e1, e2⟩ := h4.1 e
        cases e1
        have e2' : l.length = 0 := e2
        exact ⟨rfl, by omega⟩, key5⟩
    obtain ⟨a', c', rfl, hs'⟩ := hA.sat (hs.perm p1)
    obtain ⟨r2, p3, p4⟩ := (hb.repl (.sl a' (n + l.length) c' e 1 (cs ++ l.map u8))).perm
    have hrr : r.Perm r2 := (List.perm_cons _).1 (p1.symm.trans p3)
    refine ⟨_, w', .inl ?_, ?_, ro, _, Le.refl _, hs'.perm ((hrr.cons _).trans p4.symm), hk a' c' hs'.cons.1.2.1 hs'.cons.1.2.2.1⟩
    · simp only [execOp, resolve, invoke, builtin, Sem.run_bind, Sem.run_pure, Result.andThen_ok]
      have h1' : (Builtin.append_ #[t, t2] ty #[.slice a n c, str l]).run P w = .ok (.slice a' (n + l.length) c') w' := h1
      simp [hρ _ _ hx, hρ _ _ hy, h1']
    · exact ⟨rfl, h3.os, h3.tape, h3.output⟩⟩
/-- unsafe.SliceData of a slice with room. -/
theorem OpOk.sliceData {x : Operand} {t : TypeId} {a : Addr} {n c : Nat} (hx : ev env x = some (.slice (some a) n c)) (hc : c ≠ 0) (hk : K (.pointer (some a)) ro own) : OpOk P (.call ⟨.builtin .unsafeSliceData, #[x], #[t]⟩) ty env ro own K :=
  OpOk.pu (fun h hs d pos af g => .mk fun ρ w hρ hw => by
    have := Lib.run_unsafeSliceData_row (P := P) w #[t] ty a n c hc
    simp only [execOp, resolve, invoke, builtin, Sem.run_bind, Sem.run_pure, Result.andThen_ok]
    simp [hρ _ _ hx, this, Result.andThen]) hk
/-- unsafe.String of bytes of one's own: they are spent. -/
theorem OpOk.unsafeString {x y : Operand} {pt it e : TypeId} {b c : Nat} {l : List UInt8} {own' : Chs} (hx : ev env x = some (.pointer (some ⟨b, 0, none⟩))) (hy : ev env y = some (.int .i64 ((l.length : Nat) : Int))) (hp : P.underlying pt = some (.pointer e)) (hc : P.cellsOf e = 1)
    (ht : Take own (.sl (some ⟨b, 0, none⟩) l.length c e 1 (l.map u8)) own') (h0 : l ≠ []) (hn : l.length ≤ 134217728) (hk : K (str l) ro own') : OpOk P (.call ⟨.builtin .unsafeString, #[x, y], #[pt, it]⟩) ty env ro own K :=
  ⟨fun h hs d pos af g => .mk fun ρ w hρ hw => by
    subst hw
    have hs1 := ht.sat hs
    obtain ⟨c1, c2, c3, c4⟩ := hs1.cons.1
    rcases c4 with ⟨h00, _⟩ | ⟨b', sp, hb, hrow, hlen⟩
    · cases h00
    cases hb
    have hrow' : w.heap[b]? = some (.cells (l.map u8 ++ sp).toArray e (0, 0)) := hrow
    have hsh : w.shape? b = some (e, (l.map u8 ++ sp).length) := by simp [World.shape?, hrow']
    have hcell : ∀ j z, l[j]? = some z → w.cell? ((⟨b, 0, none⟩ : Addr).add j) = some (.int .u8 z.toNat) := fun j z hz => by
      have hj : j < l.length := (List.getElem?_eq_some_iff.1 hz).1
      simp only [Addr.add]
      have ha : (if j = 0 then (⟨b, 0, none⟩ : Addr) else ⟨b, 0 + j, none⟩) = ⟨b, j, none⟩ := by
        split
        · simp_all
        · simp
      rw [ha, cell_eq, cellAt_of (h := w.heap) hrow']
      have : (l.map u8 ++ sp)[j]? = some (.int .u8 z.toNat) := by
        rw [List.getElem?_append_left (by simpa using hj), List.getElem?_map, hz]; rfl
      simpa using this
    have hr := Lib.run_unsafeString_row (P := P) w pt it ty e hp hc b _ hsh l h0 (by simp) (by omega) hcell
    have hl0 : l.length ≠ 0 := by simpa using h0
    have k1 : (w.freeze ⟨b, 0, none⟩ l.length).heap[b]? = some (.cells (l.map u8 ++ sp).toArray e (0, l.length)) := by
      simp [World.freeze, hl0, Array.getElem?_modify, hrow']
    have k2 : ∀ j, j ≠ b → (w.freeze ⟨b, 0, none⟩ l.length).heap[j]? = w.heap[j]? := fun j hj => by
      simp [World.freeze, hl0, Array.getElem?_modify, Ne.symm hj]
    have hput := hs1.put (c' := .obj b (.cells (l.map u8 ++ sp).toArray e (0, l.length))) (h' := (w.freeze ⟨b, 0, none⟩ l.length).heap) (fun j _ hj => k2 j (by simpa [Chunk.fp] using hj)) k1 (fun j hj => .inl hj) (by simp [Chunk.fp])
    refine ⟨_, w.freeze ⟨b, 0, none⟩ l.length, .inl ?_, ?_, ro, own', Le.refl _, hput.drop, hk⟩
    · simp only [execOp, resolve, invoke, builtin, Sem.run_bind, Sem.run_pure, Result.andThen_ok]
      simp [hρ _ _ hx, hρ _ _ hy, hr, Result.andThen, str]
    · unfold World.freeze
      rw [if_neg hl0]
      exact ⟨rfl, rfl, rfl, rfl⟩⟩
/-- .. of no bytes. -/
theorem OpOk.unsafeString0 {x y : Operand} {pt it : TypeId} {q : Option Addr} (hx : ev env x = some (.pointer q)) (hy : ev env y = some (.int .i64 0)) (hk : K (str []) ro own) : OpOk P (.call ⟨.builtin .unsafeString, #[x, y], #[pt, it]⟩) ty env ro own K :=
  OpOk.pu (fun h hs d pos af g => .mk fun ρ w hρ hw => by
    have hr := Lib.run_unsafeString_none (P := P) w pt it ty q
    simp only [execOp, resolve, invoke, builtin, Sem.run_bind, Sem.run_pure, Result.andThen_ok]
    simp [hρ _ _ hx, hρ _ _ hy, hr, Result.andThen, str]
    rfl) hk
end
end Go.E
