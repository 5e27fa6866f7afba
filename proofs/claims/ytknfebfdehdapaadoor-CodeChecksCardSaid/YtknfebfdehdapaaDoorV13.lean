/- Bytes of a constant text: the row is marked, and lasts from then on. No program in sight. -/
import Derived.Test.YtknfebfdehdapaaDoorV12
import Derived.Test.YtknfebfdehdapaaDoorV11
namespace Go.E
open Go
set_option linter.unusedVariables false
section
variable {P : Program} {T : TT} [hT : TTab P T] {ty : TypeId} {env : Env} {ro : Ro} {own : Chs} {K : Value → Ro → Chs → Prop}
theorem run_bytesConst {s e : TypeId} {b n : Nat} {c : Nat} {cs : List Value} (hs : P.underlying s = some (.slice e)) (he : P.underlying e = some (.int .u8)) {w : World} (hr : w.heap[b]? = some (.cells cs.toArray e (0, 0))) :
    (convert s s (.slice (some ⟨b, 0, none⟩) n c)).run P w = .ok (.slice (some ⟨b, 0, none⟩) n c) (w.freeze ⟨b, cs.length, none⟩ 1) := by
  have hsh : w.shape? b = some (e, cs.length) := by simp [World.shape?, hr]
  simp [convert, run_underlying hs, run_underlying he, markStringish, hsh]
theorem freeze_heap {w : World} {b k : Nat} {e : TypeId} {cs : List Value} (hr : w.heap[b]? = some (.cells cs.toArray e (0, 0))) :
    (w.freeze ⟨b, k, none⟩ 1).heap[b]? = some (.cells cs.toArray e (k, k + 1)) ∧ (∀ j, j ≠ b → (w.freeze ⟨b, k, none⟩ 1).heap[j]? = w.heap[j]?) ∧ Hp (w.freeze ⟨b, k, none⟩ 1).heap w (w.freeze ⟨b, k, none⟩ 1) := by
  refine ⟨?_, fun j hj => ?_, rfl, rfl, rfl, rfl⟩
  · simp [World.freeze, Array.getElem?_modify, hr]
  · simp [World.freeze, Array.getElem?_modify, Ne.symm hj]
theorem OpOk.bytesConst {s e : TypeId} {x : Operand} {b n : Nat} {z1 z3 : Nat} {z2 z4 : List Value} {cs : List Value} {own' : Chs} (hx : ev env x = some (.slice (some ⟨b, 0, none⟩) n n)) (hs : T.get s = some ⟨.slice e, z1, z2⟩) (he : T.get e = some ⟨.int .u8, z3, z4⟩)
    (hown : own = .sl (some ⟨b, 0, none⟩) n n e 1 cs :: own') (hk : ∀ ro', Le ro ro' → Rs ro' (some ⟨b, 0, none⟩) n n 1 cs → K (.slice (some ⟨b, 0, none⟩) n n) ro' own') : OpOk P (.convert s s x) ty env ro own K := by
  subst hown
  refine ⟨fun g hg d pos af gd => .mk fun ρ w hρ hw => ?_⟩
  subst hw
  have hc := hg.cons.1
  obtain ⟨c1, c2, c3, c4⟩ := hc
  rcases c4 with ⟨h0, _⟩ | ⟨b', sp, hb, hrow, hlen⟩
  · cases h0
  cases hb
  have hsp : sp = [] := by cases sp with
    | nil => rfl
    | cons _ _ => simp at hlen c1; omega
  subst hsp
  rw [List.append_nil] at hrow
  obtain ⟨k1, k2, k3⟩ := freeze_heap (k := cs.length) (w := w) hrow
  have hlt : b < w.heap.size := (Array.getElem?_eq_some_iff.1 hrow).1
  have hput := hg.put (c' := .obj b (.cells cs.toArray e (cs.length, cs.length + 1))) (h' := (w.freeze ⟨b, cs.length, none⟩ 1).heap) (fun j _ hj => k2 j (by simpa [Chunk.fp] using hj)) k1 (fun j hj => .inl hj) (by simp [Chunk.fp])
  obtain ⟨ro', hl, hh, hs'⟩ := hput.freeze
  refine ⟨_, w.freeze ⟨b, cs.length, none⟩ 1, .inl ?_, ⟨rfl, rfl, rfl, rfl⟩, ro', own', hl, hs', hk ro' hl ⟨fun h own2 hsat => ?_, c1, Nat.le_refl _, c3⟩⟩
  · have hr := run_bytesConst (n := n) (c := n) (hT.ok.slice hs) (hT.ok.int he) hrow
    simp only [execOp, hρ _ _ hx, Sem.run_bind]
    rw [hr]
    simp
  · have hb2 := hsat.last _ _ hh
    rcases Nat.eq_zero_or_pos n with h0 | h0
    · subst h0
      have : cs = [] := List.eq_nil_of_length_eq_zero (by simpa using c1)
      subst this
      exact .inl ⟨rfl, rfl, _, _, rfl, c3⟩
    · refine .inr ⟨h0, b, 0, n, rfl, Nat.le_refl _, c3, (Array.getElem?_eq_some_iff.1 hb2).1, fun j v hv => ?_⟩
      simp only [cellAt, hb2, Nat.zero_add]
      simpa using hv
end
/-- A sum of two numbers of 64 bits, and what it carries. -/
theorem CallOk.add64 {P : Program} {f : FuncId} {fn : Func} {ro : Ro} {own : Chs} {K : Value → Ro → Chs → Prop} (hf : P.funcs[f]? = some fn) (hname : (fn.name == "runtime.NumGoroutine") = false) (hbd : fn.body.isNone = true) (hn : Extern.findNext fn = none)
    (he : Extern.find fn = some (Extern.MathBitsCarry.rows[0]'(by decide)).2) {x y : Nat} (hk : K (.tuple #[.int .u64 (((x + y) % 18446744073709551616 : Nat) : Int), .int .u64 (((x + y) / 18446744073709551616 : Nat) : Int)]) ro own) : CallOk P f #[.int .u64 x, .int .u64 y, .int .u64 0] ro own K := by
  refine CallOk.at0 (fun w _ => ?_) hk
  rw [run_callFunc_extern hf hname hbd hn he]
  rfl
/-- Slices of bytes, in a slice that lasts. -/
structure Bys2 (ro : Ro) (a : Option Addr) (n c : Nat) (ls : List (List UInt8)) : Prop where
  run : ∃ vs : List Value, Rs ro a n c 1 vs ∧ ls.length = n ∧ ∀ i, i < n → ∃ a' n' c', vs[i]? = some (.slice a' n' c') ∧ Bys ro a' n' c' ls[i]!
theorem Bys2.ofRows2 {h : Heap} {a : Option Addr} {n c : Nat} {ls : List (List UInt8)} (hr : Rows2 h (.slice a n c) ls) : Bys2 (hm h) a n c ls := by
  obtain ⟨vs, h1, h2, h3⟩ := hr
  obtain ⟨a', c', hv, _, _⟩ := h2.slice
  cases hv
  refine ⟨vs, Rs.ofRd h2 (by omega), rfl, fun i hi => ?_⟩
  obtain ⟨u, hu, hru⟩ := h3 i ls[i] (List.getElem?_eq_getElem hi)
  obtain ⟨a2, c2, rfl, _, _⟩ := hru.slice
  refine ⟨a2, _, c2, hu, ?_⟩
  rw [List.getElem!_eq_getElem?_getD, List.getElem?_eq_getElem hi]
  exact Bys.ofRd hru
end Go.E
