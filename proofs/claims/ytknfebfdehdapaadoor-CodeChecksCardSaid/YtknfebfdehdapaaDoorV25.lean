/- Slices of structs that are made; what lies in them is left open. No program in sight. -/
import Derived.Test.YtknfebfdehdapaaDoorV16
namespace Go.E
open Go
set_option linter.unusedVariables false
section
variable {P : Program} {T : TT} [hT : TTab P T] {ty : TypeId} {env : Env} {ro : Ro} {own : Chs} {K : Value → Ro → Chs → Prop}
theorem OpOk.makeR {t e : TypeId} {x y : Operand} {n s : Nat} {k k' : IntKind} (hx : ev env x = some (.int k (n : Int))) (hy : ev env y = some (.int k' (n : Int))) (ht : elemOf T t = some (e, s)) (hn : n ≤ 134217728)
    (hk : ∀ b cs, cs.length = n * s → K (.slice (some ⟨b, 0, none⟩) n n) ro (.sl (some ⟨b, 0, none⟩) n n e s cs :: own)) : OpOk P (.makeSlice t x y) ty env ro own K := by
  have h00 := elemOf_spec ht
  clear ht
  obtain ⟨z1, z2, te, ht, he, rfl, hzs, hpos'⟩ := h00
  obtain ⟨du, j, z, hi⟩ := tiOf.all (hT.ok.get he)
  exact ⟨fun h hs d pos af g => .mk fun ρ w hρ hw => by
    subst hw
    have hsz : j.size = te.size := hi.size.symm
    have hbytes : (j.bytes : Int) * (n : Int) ≤ 140737488355328 := by
      have h1 : (j.bytes : Int) ≤ 1048576 := by have := hi.bytes; omega
      calc (j.bytes : Int) * (n : Int) ≤ 1048576 * 134217728 := Int.mul_le_mul h1 (by omega) (by omega) (by omega)
        _ ≤ 140737488355328 := by decide
    have hr := run_make (P := P) w t e j z (hT.ok.slice ht) hi.info hi.zero k k' n n (by omega) (Int.le_refl _) (by omega) (by omega)
    rw [Int.toNat_natCast] at hr
    have hlen : (madeCells z.cells (n * j.size)).toList.length = n * te.size := by
      rw [← hsz]; simp [madeCells]
    refine ⟨_, { w with heap := w.heap.push (.cells (madeCells z.cells (n * j.size)) e) }, .inl ?_, ⟨rfl, rfl, rfl, rfl⟩, ro, _, Le.refl _,
      hs.new (c' := .sl (some ⟨w.heap.size, 0, none⟩) n n e te.size (madeCells z.cells (n * j.size)).toList) (newly_push w (.cells (madeCells z.cells (n * j.size)) e)).2.2 ⟨hlen, Nat.le_refl _, by unfold maxLen; omega, .inr ⟨w.heap.size, [], rfl, ?_, by rw [hlen]; simp⟩⟩ (by simp [Chunk.fp]) (by simp [Chunk.fp]), hk w.heap.size _ hlen⟩
    · simp only [execOp, hρ _ _ hx, hρ _ _ hy, Sem.run_bind]
      rw [hr]
      rfl
    · unfold RowR hm
      rw [List.append_nil]
      exact (newly_push w (.cells (madeCells z.cells (n * j.size)) e)).2.1⟩
theorem splice_app {cs sp vs : List Value} {k : Nat} (h : k + vs.length ≤ cs.length) : splice (cs ++ sp) k vs = splice cs k vs ++ sp := by
  unfold splice
  rw [List.take_append_of_le_length (by omega), List.drop_append_of_le_length (by omega), List.append_assoc]
  simp
theorem splice_len {cs vs : List Value} {k : Nat} (h : k + vs.length ≤ cs.length) : (splice cs k vs).length = cs.length := by
  simp [splice]; omega
/-- A struct is stored whole, into a slice of one's own. -/
theorem OpOk.storeSlRow {t : TypeId} {x y : Operand} {a : Option Addr} {k o : Nat} {vs : List Value} {n c s z : Nat} {t0 : TypeId} {cs : List Value} {f : Chunk → Chs} (hx : ev env x = some (.pointer (some ⟨ab a, o, none⟩))) (hy : ev env y = some (.agg vs.toArray)) (ht : rowT T t = some z) (hz : vs.length = z) (h1 : vs.all (fun u => u.oneCell') = true)
    [hb : HasSl own a n c t0 s cs f] (ho : o = ao a + k) (hlt : k + z ≤ cs.length) (hpos : 0 < z) (hk : K undef ro (f (.sl a n c t0 s (splice cs k vs)))) : OpOk P (.store t x y) ty env ro own K :=
  ⟨fun h hsat d pos af g => by
    subst ho
    obtain ⟨r, p1, p2⟩ := (hb.repl (.sl a n c t0 s (splice cs k vs))).perm
    have hsat := hsat.perm p1
    obtain ⟨c1, c2, c3, c4⟩ := hsat.cons.1
    have hsl := splice_len (cs := cs) (vs := vs) (k := k) (by omega)
    rcases c4 with ⟨rfl, rfl, rfl⟩ | ⟨b, sp, rfl, c5, c6⟩
    · simp at c1; subst c1; simp at hlt; omega
    · simp only [ab, ao, Nat.zero_add] at hx
      refine (Eff.storeN0 hx hy ((rsz ht).trans (by simp [Value.cells, hz])) (by simpa [Value.cells] using List.all_eq_true.1 h1) c5 (by simp [Value.cells]; omega)).mono ?_
      rintro _ h' ⟨rfl, g1, g2, g3⟩
      refine ⟨ro, _, Le.refl _, (hsat.put (c' := .sl (some ⟨b, 0, none⟩) n c t0 s (splice cs k vs)) (fun k _ hk => g3 k (by simpa [Chunk.fp] using hk)) ⟨by rw [hsl]; exact c1, c2, c3, .inr ⟨b, sp, rfl, ?_, by rw [hsl]; exact c6⟩⟩ (fun k hk => .inl hk) (by simp [Chunk.fp])).perm p2.symm, hk⟩
      rw [← splice_app (by omega)]
      have g2' : Row h' b t0 (splice (cs ++ sp) k vs) := by simpa [Value.cells] using g2
      exact g2'⟩
end
end Go.E
