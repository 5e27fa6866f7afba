/- The builtin copy: from a slice that is read into cells of a block that may be written. -/
import Derived.Test.YtpajhgnkagifbaaMor
import Derived.Laws.CopyRow
namespace Go.E
open Go
set_option linter.unusedSimpArgs false
set_option linter.unusedVariables false
section
variable {P : Program} {env : Env} {h : Heap} {d : Option Nat} {ty : TypeId} {pos : String} {af : Array Edge} {g : Option (Nat × Bool)}

/-- Nothing to copy. -/
theorem Eff.copyNone {x y : Operand} {t t2 e : TypeId} {a a' : Option Addr} {n c c' : Nat} (hx : ev env x = some (.slice a n c)) (hy : ev env y = some (.slice a' 0 c')) (ht : P.underlying t = some (.slice e)) (hs : (P.info? e).map (·.size) = some 1) :
    Eff P ⟨d, .call { callee := .builtin .copy, args := #[x, y], argTypes := #[t, t2] }, ty, pos, af, g⟩ env h (fun u h' => h = h') := .mk fun ρ w hρ hw => by
  subst hw
  refine ⟨goInt 0, w, .inl ?_, Hp.self w, rfl⟩
  cases hq : P.info? e with
  | none => simp [hq] at hs
  | some i =>
    cases a <;> cases a' <;> simp [execOp, resolve, invoke, builtin, hρ _ _ hx, hρ _ _ hy, Builtin.copy_, run_underlying ht, sizeOf, typeInfo, hq, Builtin.lenOf, Builtin.firstCells, storeCells, loadCells, loadCellsFrom]
/-- All that is read goes into a block: behind the place o. -/
theorem Eff.copyRow {x y : Operand} {t t2 e te : TypeId} {b o n c m : Nat} {sv : Value} {cs news : List Value} (hx : ev env x = some (.slice (some ⟨b, o, none⟩) n c)) (hy : ev env y = some sv) (ht : P.underlying t = some (.slice e)) (hs : (P.info? e).map (·.size) = some 1)
    (hr : Row h b te cs) (hsv : Rd h sv m news) (hl : news.length = m) (hm : m ≤ n) (hfit : o + m ≤ cs.length) (h1 : ∀ u ∈ news, u.oneCell' = true) :
    Eff P ⟨d, .call { callee := .builtin .copy, args := #[x, y], argTypes := #[t, t2] }, ty, pos, af, g⟩ env h (fun u h' => h'.size = h.size ∧ Row h' b te (splice cs o news) ∧ ∀ k, k ≠ b → h'[k]? = h[k]?) := .mk fun ρ w hρ hw => by
  rcases hsv with ⟨rfl, rfl, a, c', rfl, _⟩ | ⟨_, b', o', c', rfl, _, _, _, hcs⟩
  · obtain ⟨v, w', h2, h3, h4⟩ := (Eff.copyNone (P := P) (d := d) (ty := ty) (pos := pos) (af := af) (g := g) (t2 := t2) (h := h) hx hy ht hs).run ρ w hρ hw
    exact ⟨v, w', h2, h3, by rw [← h4], by rw [← h4]; simpa [splice] using hr, fun k _ => by rw [← h4]⟩
  · subst hw
    have hst := run_copy_row P w t t2 ty e b o n c ⟨b', o', none⟩ m c' cs.toArray te news ht hs hr (by rw [hl]; exact (Nat.min_eq_left hm).symm) (fun j u hu => by rw [Addr.add_mid, cell_eq]; exact hcs j u hu) (by simpa [hl] using hfit) h1
    obtain ⟨k1, k2, k3, k4⟩ := setRow_hp (cs' := splice cs o news) hr
    refine ⟨goInt news.length, _, .inl ?_, k1, k2, k3, k4⟩
    simp only [execOp, resolve, invoke, builtin, Sem.run_bind, Sem.run_pure, Result.andThen_ok]
    simp [hρ _ _ hx, hρ _ _ hy, hst, splice]
end
end Go.E
