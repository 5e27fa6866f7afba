/- Texts of a walk, one behind the other. -/
import Derived.Test.YtinbmhbfcoiefaaGreatDoorMg9
import Derived.Test.YtinbmhbfcoiefaaGreatDoorMg10
section
/- Contracts of dfa: Of, Later, Auto, Counts. -/
namespace Go.Proofs.YtinbmhbfcoiefaaGreatDoor
open Go Go.E
set_option linter.unusedVariables false
set_option linter.unusedSimpArgs false
set_option maxRecDepth 10000
/-- Why there is no automaton of an expression (0: there is one), and it. -/
def lstE (n : RgD) : Nat := if (makeN n).1 ≠ 0 then (makeN n).1 else (makeA (makeN n).2).1
def lstD (n : RgD) : DfaA := leastA (makeA (makeN n).2).2
/-- What Of tells first. -/
def OfP (ro : Ro) (n : RgD) (P : Value) : Prop := (lstE n ≠ 0 ∧ P = .pointer none) ∨ (lstE n = 0 ∧ ∃ p, P = ptr' p ∧ DAt ro p (lstD n))
theorem make_check {n : RgD} (h : (makeN n).1 = 0) : (checkD n 512).1 = 0 := by
  unfold makeN at h
  split at h
  · rename_i h1; exact absurd h h1
  · rename_i h1; exact Decidable.of_not_not h1
theorem make_size {n : RgD} (h : (makeN n).1 = 0) : wrongD n = 0 ∧ (setsN (makeN n).2.rows).length ≤ 1000 := by
  obtain ⟨h1, h2, _⟩ := check_zero n 512 (make_check h)
  have := sets_len n
  exact ⟨h1, by omega⟩
section
variable {ro : Ro} {own r : Chs} {K : Value → Ro → Chs → Prop} {g : Chunk → Chs}
theorem dof_ok {n : RgD} {v : List Value} (ht : TabOk ro) (hv : RgOk ro n v) (hk : ∀ ro' P, Le ro ro' → OfP ro' n P → K (.tuple #[P, .int .i64 (lstE n : Int)]) ro' own) :
    CallOk Tryz.prog 20 #[.agg v.toArray] ro own K := by
  have hin := rg_ins hv
  obtain ⟨a1, c1, hvc⟩ := hv.cells
  have hv0 := hv
  subst hvc
  have hK := make_k hin
  refine CallOk.intro (args := [_]) (rs := [_, _]) T_ok Tryz.func20 Tryz.call20 rfl rfl (by kernel_rfl) rfl rfl ?_
  repeat (first | exact endA | refine wkP ?_ | refine opB (fun b => ?_) | refine opA (fun a' c' hc1 hc2 => ?_) | (apply GJ.and; exact rfl; intro hg) | (apply GJ.or; exact rfl; intro hg))
  refine nmake_ok hv0 (fun ro2 v2 hl2 hA => ?_)
  have hA0 := hA
  have hE : lstE n = if (makeN n).1 ≠ 0 then (makeN n).1 else (makeA (makeN n).2).1 := rfl
  have hD : lstD n = leastA (makeA (makeN n).2).2 := rfl
  by_cases h1 : (makeN n).1 = 0
  · obtain ⟨hw, hsl⟩ := make_size h1
    rw [if_neg (by rw [h1]; decide)] at hE
    rw [h1]
    obtain ⟨ad, cp, hs, rfl, hrs, hrw⟩ := hA
    repeat (first | exact endA | refine wkP ?_ | refine opB (fun b => ?_) | refine opA (fun a' c' hc1 hc2 => ?_) | (apply GJ.and; exact rfl; intro hg) | (apply GJ.or; exact rfl; intro hg))
    refine dmake_ok hA0 hK (ht.le hl2) hsl (fun h2 ro3 hl3 => ?_) (fun h2 ro3 p hl3 hp => ?_)
    · rw [← hE] at h2 ⊢
      repeat (first | exact endA | refine wkP ?_ | refine opB (fun b => ?_) | refine opA (fun a' c' hc1 hc2 => ?_) | (apply GJ.and; exact rfl; intro hg) | (apply GJ.or; exact rfl; intro hg))
      exact Wk.outS Sup.auto (.refl _) (hk ro3 _ (hl2.trans hl3) (.inl ⟨h2, rfl⟩))
    · have hm := (made_a2 hK.ok.to hK.sets h2).1
      obtain ⟨w, hw6, ho, hs⟩ := hm.ok
      repeat (first | exact endA | refine wkP ?_ | refine opB (fun b => ?_) | refine opA (fun a' c' hc1 hc2 => ?_) | (apply GJ.and; exact rfl; intro hg) | (apply GJ.or; exact rfl; intro hg))
      refine dleast_ok hp ho hs hw6 hm.pos hm.le (fun ro4 p4 hl4 hp4 => ?_)
      rw [← hD] at hp4
      repeat (first | exact endA | refine wkP ?_ | refine opB (fun b => ?_) | refine opA (fun a' c' hc1 hc2 => ?_) | (apply GJ.and; exact rfl; intro hg) | (apply GJ.or; exact rfl; intro hg))
      have h0 : lstE n = 0 := hE.trans h2
      have := hk ro4 (ptr' p4) ((hl2.trans hl3).trans hl4) (.inr ⟨h0, p4, rfl, hp4⟩)
      rw [h0] at this
      exact Wk.outS Sup.auto (.refl _) this
  · rw [if_pos h1] at hE
    have h2 : lstE n ≠ 0 := by rw [hE]; exact h1
    obtain ⟨ad, cp, hs, rfl, hrs, hrw⟩ := hA
    rw [← hE]
    repeat (first | exact endA | refine wkP ?_ | refine opB (fun b => ?_) | refine opA (fun a' c' hc1 hc2 => ?_) | (apply GJ.and; exact rfl; intro hg) | (apply GJ.or; exact rfl; intro hg))
    exact Wk.outS Sup.auto (.refl _) (hk ro2 _ hl2 (.inl ⟨h2, rfl⟩))
theorem later_ok {n : RgD} {a : Option Addr} {c : Nat} (hk : ∀ q, K (ptr' q) ro (.blk q 97 [.int .i64 n.kind, wV n.set.a, wV n.set.b, wV n.set.c, wV n.set.d, .slice a n.kids.length c, .int .i64 n.min, .int .i64 n.max, .int .u32 0, .int .i32 0, .int .u32 0, .pointer none, .int .i64 0, .int .i64 0, .int .i32 0] :: own)) :
    CallOk Tryz.prog 21 #[.agg (nodeV n.kind n.set a n.kids.length c n.min n.max).toArray] ro own K := by
  refine CallOk.intro (args := [_]) (rs := [_]) T_ok Tryz.func21 Tryz.call21 rfl rfl (by kernel_rfl) rfl rfl ?_
  repeat (first | exact endA | refine wkP ?_ | refine opB (fun b => ?_) | refine opA (fun a' c' hc1 hc2 => ?_) | (apply GJ.and; exact rfl; intro hg) | (apply GJ.or; exact rfl; intro hg))
  exact Wk.outS Sup.auto (.refl _) (hk _)
theorem iadd64_ok {b o : Nat} {t : TypeId} {cs : List Value} {x : Int} [hb : HasBlk own b t cs g] (hx : cs[o]? = some (.int .i64 x)) (hr : 0 ≤ x ∧ x ≤ 1000000) (hk : K (.int .i64 (x + 1)) ro (g (.blk b t (cs.set o (.int .i64 (x + 1)))))) :
    CallOk Tryz.prog 36 #[.pointer (some ⟨b, o, none⟩), .int .i64 1] ro own K := by
  refine CallOk.intro (args := [_, _]) (rs := [_]) T_ok Tryz.func36 Tryz.call36 rfl rfl (by kernel_rfl) rfl rfl ?_
  repeat (first | exact endA | refine wkP ?_ | refine opB (fun b => ?_) | refine opA (fun a' c' hc1 hc2 => ?_) | (apply GJ.and; exact rfl; intro hg) | (apply GJ.or; exact rfl; intro hg))
  refine CallOk.aaddAt Tryz.func60 (by kernel_rfl) (by kernel_rfl) (by kernel_rfl) .i64 (by kernel_rfl) (s := x + 1) hx (by simp [IntKind.wrap, IntKind.bits, IntKind.signed]; omega) ?_
  repeat (first | exact endA | refine wkP ?_ | refine opB (fun b => ?_) | refine opA (fun a' c' hc1 hc2 => ?_) | (apply GJ.and; exact rfl; intro hg) | (apply GJ.or; exact rfl; intro hg))
  exact Wk.id hk
theorem iadd32_ok {b o : Nat} {t : TypeId} {cs : List Value} {x : Int} [hb : HasBlk own b t cs g] (hx : cs[o]? = some (.int .i32 x)) (hr : 0 ≤ x ∧ x ≤ 1000000) (hk : K (.int .i32 (x + 1)) ro (g (.blk b t (cs.set o (.int .i32 (x + 1)))))) :
    CallOk Tryz.prog 39 #[.pointer (some ⟨b, o, none⟩), .int .i32 1] ro own K := by
  refine CallOk.intro (args := [_, _]) (rs := [_]) T_ok Tryz.func39 Tryz.call39 rfl rfl (by kernel_rfl) rfl rfl ?_
  repeat (first | exact endA | refine wkP ?_ | refine opB (fun b => ?_) | refine opA (fun a' c' hc1 hc2 => ?_) | (apply GJ.and; exact rfl; intro hg) | (apply GJ.or; exact rfl; intro hg))
  refine CallOk.aaddAt Tryz.func63 (by kernel_rfl) (by kernel_rfl) (by kernel_rfl) .i32 (by kernel_rfl) (s := x + 1) hx (by simp [IntKind.wrap, IntKind.bits, IntKind.signed]; omega) ?_
  repeat (first | exact endA | refine wkP ?_ | refine opB (fun b => ?_) | refine opA (fun a' c' hc1 hc2 => ?_) | (apply GJ.and; exact rfl; intro hg) | (apply GJ.or; exact rfl; intro hg))
  exact Wk.id hk
theorem iload32_ok {b o : Nat} {x : Int} (hl : Ld ro own b o (.int .i32 x)) (hk : K (.int .i32 x) ro own) : CallOk Tryz.prog 35 #[.pointer (some ⟨b, o, none⟩)] ro own K := by
  refine CallOk.intro (args := [_]) (rs := [_]) T_ok Tryz.func35 Tryz.call35 rfl rfl (by kernel_rfl) rfl rfl ?_
  repeat (first | exact endA | refine wkP ?_ | refine opB (fun b => ?_) | refine opA (fun a' c' hc1 hc2 => ?_) | (apply GJ.and; exact rfl; intro hg) | (apply GJ.or; exact rfl; intro hg))
  refine CallOk.aload Tryz.func59 (by kernel_rfl) (by kernel_rfl) (by kernel_rfl) .i32 (by kernel_rfl) (x := x) (by simpa using hl) ?_
  repeat (first | exact endA | refine wkP ?_ | refine opB (fun b => ?_) | refine opA (fun a' c' hc1 hc2 => ?_) | (apply GJ.and; exact rfl; intro hg) | (apply GJ.or; exact rfl; intro hg))
  exact Wk.id hk
theorem iload64_ok {b o : Nat} {x : Int} (hl : Ld ro own b o (.int .i64 x)) (hk : K (.int .i64 x) ro own) : CallOk Tryz.prog 34 #[.pointer (some ⟨b, o, none⟩)] ro own K := by
  refine CallOk.intro (args := [_]) (rs := [_]) T_ok Tryz.func34 Tryz.call34 rfl rfl (by kernel_rfl) rfl rfl ?_
  repeat (first | exact endA | refine wkP ?_ | refine opB (fun b => ?_) | refine opA (fun a' c' hc1 hc2 => ?_) | (apply GJ.and; exact rfl; intro hg) | (apply GJ.or; exact rfl; intro hg))
  refine CallOk.aload Tryz.func58 (by kernel_rfl) (by kernel_rfl) (by kernel_rfl) .i64 (by kernel_rfl) (x := x) (by simpa using hl) ?_
  repeat (first | exact endA | refine wkP ?_ | refine opB (fun b => ?_) | refine opA (fun a' c' hc1 hc2 => ?_) | (apply GJ.and; exact rfl; intro hg) | (apply GJ.or; exact rfl; intro hg))
  exact Wk.id hk
theorem counts_ok {q : Nat} {z0 z1 z2 z3 z4 z5 z6 z7 d s sm P : Value} {e x y : Int} (hy : 0 ≤ y ∧ y ≤ 1000000) (hk : K (.tuple #[.int .i64 x, .int .i64 y]) ro (.blk q 97 [z0, z1, z2, z3, z4, z5, z6, z7, d, s, sm, P, .int .i64 e, .int .i64 x, .int .i32 y] :: own)) :
    CallOk Tryz.prog 22 #[ptr' q] ro (.blk q 97 [z0, z1, z2, z3, z4, z5, z6, z7, d, s, sm, P, .int .i64 e, .int .i64 x, .int .i32 y] :: own) K := by
  refine CallOk.intro (args := [_]) (rs := [_, _]) T_ok Tryz.func22 Tryz.call22 rfl rfl (by kernel_rfl) rfl rfl ?_
  repeat (first | exact endA | refine wkP ?_ | refine opB (fun b => ?_) | refine opA (fun a' c' hc1 hc2 => ?_) | (apply GJ.and; exact rfl; intro hg) | (apply GJ.or; exact rfl; intro hg))
  refine iload64_ok (x := x) (by exact Ld.hasBlkAt rfl) ?_
  repeat (first | exact endA | refine wkP ?_ | refine opB (fun b => ?_) | refine opA (fun a' c' hc1 hc2 => ?_) | (apply GJ.and; exact rfl; intro hg) | (apply GJ.or; exact rfl; intro hg))
  refine iload32_ok (x := y) (by exact Ld.hasBlkAt rfl) ?_
  repeat (first | exact endA | refine wkP ?_ | refine opB (fun b => ?_) | refine opA (fun a' c' hc1 hc2 => ?_) | (apply GJ.and; exact rfl; intro hg) | (apply GJ.or; exact rfl; intro hg))
  rw [show IntKind.i64.wrap y = y from wrap_i64 (by omega)]
  exact Wk.outS Sup.auto (.refl _) hk
/-- The closure of Auto: the automaton is made. -/
theorem auto1_ok {n : RgD} {a : Option Addr} {c q pl : Nat} {d s sm : Value} {x : Int} (ht : TabOk ro) (hv : RgOk ro n (nodeV n.kind n.set a n.kids.length c n.min n.max))
    (hk : ∀ ro' P, Le ro ro' → OfP ro' n P → K (.tuple #[]) ro' (.blk q 97 [.int .i64 n.kind, wV n.set.a, wV n.set.b, wV n.set.c, wV n.set.d, .slice a n.kids.length c, .int .i64 n.min, .int .i64 n.max, d, s, sm, P, .int .i64 (lstE n : Int), .int .i64 x, .int .i32 1] :: .blk pl 56 [ptr' q] :: own)) :
    CallOk Tryz.prog 38 #[ptr' pl] ro (.blk q 97 [.int .i64 n.kind, wV n.set.a, wV n.set.b, wV n.set.c, wV n.set.d, .slice a n.kids.length c, .int .i64 n.min, .int .i64 n.max, d, s, sm, .pointer none, .int .i64 0, .int .i64 x, .int .i32 0] :: .blk pl 56 [ptr' q] :: own) K := by
  refine CallOk.intro (args := [_]) (rs := []) T_ok Tryz.func38 Tryz.call38 rfl rfl (by kernel_rfl) rfl rfl ?_
  repeat (first | exact endA | refine wkN ?_ | refine Bs.all ?_ | (show QOk _ _ _ _ _ _ _; refine QOk.build rfl rfl Nf.auto ?_) | refine opB (fun b => ?_) | refine opA (fun a' c' hc1 hc2 => ?_) | (show GJ _ _ _ _ _ _ _; first | refine GJ.t (by decide) ?_ | refine GJ.f (by decide) ?_ | refine GJ.ft (by decide) ?_ | refine GJ.ff (by decide) ?_) | (show Br _ _ _; first | refine Br.t (by decide) ?_ | refine Br.f (by decide) ?_) | (apply GJ.and; exact rfl; intro hg) | (apply GJ.or; exact rfl; intro hg))
  refine CodeOk.drawn [.look 0, .look 1, .look 2, .look 3, .look 4, .keep 5, .keep 6, .look 7, .look 8, .look 9, .look 10, .look 11, .keep 12, .look 13, .look 14, .keep 15] rfl (by kernel_rfl) (by rfl) (by kernel_rfl) ?_
  refine Stop.mk ?_
  refine Bs.mk ⟨[.blk pl 56 [ptr' q]], Sup.auto, ?_⟩
  repeat (first | exact endA | refine wkU ?_ | (show QOk _ _ _ _ _ _ _; refine QOk.build rfl rfl Nf.auto ?_) | (show GJ _ _ _ _ _ _ _; first | with_reducible refine GJ.neF ?_ | with_reducible refine GJ.neT ?_) | (show Br _ _ _; with_reducible refine Br.ne ?_) | refine opB (fun b => ?_) | refine opA (fun a' c' hc1 hc2 => ?_) | (apply GJ.and; exact rfl; intro hg) | (apply GJ.or; exact rfl; intro hg))
  refine dof_ok ht hv (fun ro' P hl hp => ?_)
  repeat (first | exact endA | refine wkU ?_ | (show QOk _ _ _ _ _ _ _; refine QOk.build rfl rfl Nf.auto ?_) | (show GJ _ _ _ _ _ _ _; first | with_reducible refine GJ.neF ?_ | with_reducible refine GJ.neT ?_) | (show Br _ _ _; with_reducible refine Br.ne ?_) | refine opB (fun b => ?_) | refine opA (fun a' c' hc1 hc2 => ?_) | (apply GJ.and; exact rfl; intro hg) | (apply GJ.or; exact rfl; intro hg))
  obtain ⟨o, rfl⟩ : ∃ o, P = .pointer o := by
    rcases hp with ⟨h1, rfl⟩ | ⟨h1, p, rfl, h3⟩ <;> exact ⟨_, rfl⟩
  repeat (first | exact endA | refine wkU ?_ | (show QOk _ _ _ _ _ _ _; refine QOk.build rfl rfl Nf.auto ?_) | (show GJ _ _ _ _ _ _ _; first | with_reducible refine GJ.neF ?_ | with_reducible refine GJ.neT ?_) | (show Br _ _ _; with_reducible refine Br.ne ?_) | refine opB (fun b => ?_) | refine opA (fun a' c' hc1 hc2 => ?_) | (apply GJ.and; exact rfl; intro hg) | (apply GJ.or; exact rfl; intro hg))
  refine iadd32_ok (x := 0) rfl (by omega) ?_
  repeat (first | exact endA | refine wkP ?_ | refine opB (fun b => ?_) | refine opA (fun a' c' hc1 hc2 => ?_) | (apply GJ.and; exact rfl; intro hg) | (apply GJ.or; exact rfl; intro hg))
  exact Wk.outS Sup.auto (.refl _) (hk ro' _ hl hp)
/-- A Lazy's cells: not made yet. -/
def lz0 (n : RgD) (a : Option Addr) (c : Nat) (x : Int) : List Value := [.int .i64 n.kind, wV n.set.a, wV n.set.b, wV n.set.c, wV n.set.d, .slice a n.kids.length c, .int .i64 n.min, .int .i64 n.max, .int .u32 0, .int .i32 0, .int .u32 0, .pointer none, .int .i64 0, .int .i64 x, .int .i32 0]
/-- A Lazy's cells: made. -/
def lz1 (n : RgD) (a : Option Addr) (c : Nat) (x : Int) (P : Value) : List Value := [.int .i64 n.kind, wV n.set.a, wV n.set.b, wV n.set.c, wV n.set.d, .slice a n.kids.length c, .int .i64 n.min, .int .i64 n.max, .int .u32 1, .int .i32 0, .int .u32 0, P, .int .i64 (lstE n : Int), .int .i64 x, .int .i32 1]
theorem lauto0_ok {n : RgD} {a : Option Addr} {c q : Nat} {x : Int} (ht : TabOk ro) (hv : RgOk ro n (nodeV n.kind n.set a n.kids.length c n.min n.max)) (hx : 0 ≤ x ∧ x ≤ 1000000)
    (hk : ∀ ro' P, Le ro ro' → OfP ro' n P → K (.tuple #[P, .int .i64 (lstE n : Int)]) ro' (.blk q 97 (lz1 n a c (x + 1) P) :: own)) :
    CallOk Tryz.prog 23 #[ptr' q] ro (.blk q 97 (lz0 n a c x) :: own) K := by
  dsimp only [lz0, lz1] at hk ⊢
  refine CallOk.intro (args := [_]) (rs := [_, _]) T_ok Tryz.func23 Tryz.call23 rfl rfl (by kernel_rfl) rfl rfl ?_
  repeat (first | exact endA | refine wkP ?_ | refine opB (fun b => ?_) | refine opA (fun a' c' hc1 hc2 => ?_) | (apply GJ.and; exact rfl; intro hg) | (apply GJ.or; exact rfl; intro hg))
  refine iadd64_ok (x := x) rfl hx ?_
  dsimp only [List.set]
  repeat (first | exact endA | refine wkP ?_ | refine opB (fun b => ?_) | refine opA (fun a' c' hc1 hc2 => ?_) | (apply GJ.and; exact rfl; intro hg) | (apply GJ.or; exact rfl; intro hg))
  refine CallOk.perm (.swap _ _ _) ?_
  refine do_first (rest := [.pointer none, .int .i64 0, .int .i64 (x + 1), .int .i32 0]) (Ψ := fun ro' rest' r' => ∃ P, Le ro ro' ∧ OfP ro' n P ∧ rest' = [P, .int .i64 (lstE n : Int), .int .i64 (x + 1), .int .i32 1] ∧ r' = .blk b 56 [ptr' q] :: own) (auto1_ok ht hv (fun ro' P hl hp => ⟨rfl, _, _, rfl, P, hl, hp, rfl, rfl⟩)) ?_
  rintro ro' rest' r' hl ⟨P, hl2, hp, rfl, rfl⟩
  obtain ⟨o, rfl⟩ : ∃ o, P = .pointer o := by
    rcases hp with ⟨h1, rfl⟩ | ⟨h1, p, rfl, h3⟩ <;> exact ⟨_, rfl⟩
  repeat (first | exact endA | refine wkP ?_ | refine opB (fun b => ?_) | refine opA (fun a' c' hc1 hc2 => ?_) | (apply GJ.and; exact rfl; intro hg) | (apply GJ.or; exact rfl; intro hg))
  exact Wk.outS Sup.auto (.refl _) (hk ro' _ hl hp)
end
end Go.Proofs.YtinbmhbfcoiefaaGreatDoor
end
section
/- Contracts of dfa's laws: few, made. -/
namespace Go.Proofs.YtinbmhbfcoiefaaGreatDoor
open Go Go.E
set_option linter.unusedVariables false
set_option linter.unusedSimpArgs false
set_option maxRecDepth 10000
structure Fw8C (n : RgD) : Prop where
  run : ∀ {ro : Ro} {r : Chs} {K : Value → Ro → Chs → Prop} {p : Nat} {v : List Value} {M : Int}, RgOk ro n v → 0 ≤ M → M ≤ 100000 → K (.bool (fewX 4 5 n M).1) ro (.blk p 3 [.int .i64 (fewX 4 5 n M).2] :: r) →
    CallOk Tryz.prog 19 #[.agg v.toArray, ptr' p] ro (.blk p 3 [.int .i64 M] :: r) K
set_option maxHeartbeats 16000000 in
theorem fw8C : ∀ n, Fw8C n := RgD.ind fun k z l x y ih => ⟨fun {ro r K p v M} hv hM hM2 hk => by
  rw [RgOk] at hv
  obtain ⟨ad, cp, cs, rfl, hs, hrs, hks⟩ := hv
  have hle := hrs.le
  have hmx := hrs.max
  unfold maxLen at hmx
  rw [fewX] at hk
  dsimp only at hk
  by_cases h0 : M - 1 < 0
  · rw [if_pos (.inl (.inl h0))] at hk
    refine CallOk.intro (args := [_, _]) (rs := [_]) T_ok Tryz.func19 Tryz.call19 rfl rfl (by kernel_rfl) rfl rfl ?_
    repeat (first | exact endA | refine wkP ?_ | refine opB (fun b => ?_) | refine opA (fun a' c' hc1 hc2 => ?_) | (apply GJ.and; exact rfl; intro hg) | (apply GJ.or; exact rfl; intro hg))
    exact Wk.outS Sup.auto (.refl _) hk
  by_cases h100 : 30 < l.length
  · rw [if_pos (.inl (.inr h100))] at hk
    refine CallOk.intro (args := [_, _]) (rs := [_]) T_ok Tryz.func19 Tryz.call19 rfl rfl (by kernel_rfl) rfl rfl ?_
    repeat (first | exact endA | refine wkP ?_ | refine opB (fun b => ?_) | refine opA (fun a' c' hc1 hc2 => ?_) | (apply GJ.and; exact rfl; intro hg) | (apply GJ.or; exact rfl; intro hg))
    exact Wk.outS Sup.auto (.refl _) hk
  by_cases hk5 : k = 5 ∧ (4 < x ∨ 5 < y)
  · rw [if_pos (.inr hk5)] at hk
    obtain ⟨rfl, hk6⟩ := hk5
    by_cases hx6 : 4 < x
    · refine CallOk.intro (args := [_, _]) (rs := [_]) T_ok Tryz.func19 Tryz.call19 rfl rfl (by kernel_rfl) rfl rfl ?_
      repeat (first | exact endA | refine wkP ?_ | refine opB (fun b => ?_) | refine opA (fun a' c' hc1 hc2 => ?_) | (apply GJ.and; exact rfl; intro hg) | (apply GJ.or; exact rfl; intro hg))
      exact Wk.outS Sup.auto (.refl _) hk
    · have hy8 : 5 < y := hk6.resolve_left hx6
      refine CallOk.intro (args := [_, _]) (rs := [_]) T_ok Tryz.func19 Tryz.call19 rfl rfl (by kernel_rfl) rfl rfl ?_
      repeat (first | exact endA | refine wkP ?_ | refine opB (fun b => ?_) | refine opA (fun a' c' hc1 hc2 => ?_) | (apply GJ.and; exact rfl; intro hg) | (apply GJ.or; exact rfl; intro hg))
      exact Wk.outS Sup.auto (.refl _) hk
  rw [if_neg (fun z => z.elim (fun u => u.elim h0 h100) hk5)] at hk
  refine CallOk.intro (args := [_, _]) (rs := [_]) T_ok Tryz.func19 Tryz.call19 rfl rfl (by kernel_rfl) rfl rfl ?_
  repeat (first | exact endA | refine wkP ?_ | refine opB (fun b => ?_) | refine opA (fun a' c' hc1 hc2 => ?_) | (apply GJ.and; exact rfl; intro hg) | (apply GJ.or; exact rfl; intro hg))
  refine LoopOk.at (ι := Nat × Int) Keep.auto (fun (i, Mi) => [(40, .int .i64 (i : Int))]) (fun (i, Mi) => .blk p 3 [.int .i64 Mi] :: r) (fun (i, Mi) => i ≤ l.length ∧ 0 ≤ Mi ∧ Mi ≤ M - 1 ∧ fewY 4 5 l (M - 1) = fewY 4 5 (l.drop i) Mi) (fun (i, Mi) => l.length - i) (0, M - 1) ?_ Sub.auto Sup.auto ?_
  · exact ⟨Nat.zero_le _, by omega, Int.le_refl _, by simp⟩
  rintro ⟨i, Mi⟩ ⟨i1, i2, i3, i4⟩
  dsimp only [List.cons_append, List.nil_append] at i1 i2 i3 i4 ⊢
  by_cases hi : i < l.length
  · obtain ⟨kd, hkd⟩ : ∃ kd, l[i]? = some kd := ⟨_, List.getElem?_eq_getElem hi⟩
    have hvv := hks.get hkd
    obtain ⟨ak, ck, hvk⟩ := hvv.cells
    rw [hvk] at hvv
    have hdr : l.drop i = kd :: l.drop (i + 1) := by
      rw [List.drop_eq_getElem_cons hi]
      congr 1
      rw [List.getElem?_eq_getElem hi] at hkd
      exact Option.some.inj hkd
    rw [hdr, fewY] at i4
    dsimp only at i4
    have hleft := fewX_left (mn := 4) (mx := 5) kd Mi
    repeat (first | exact endA | refine wkP ?_ | refine opB (fun b => ?_) | refine opA (fun a' c' hc1 hc2 => ?_) | (apply GJ.and; exact rfl; intro hg) | (apply GJ.or; exact rfl; intro hg))
    rw [Int.toNat_natCast]
    refine OpOk.loadRow rfl rfl (LdN.at hrs hvk) rfl ?_
    repeat (first | exact endA | refine wkP ?_ | refine opB (fun b => ?_) | refine opA (fun a' c' hc1 hc2 => ?_) | (apply GJ.and; exact rfl; intro hg) | (apply GJ.or; exact rfl; intro hg))
    refine CallOk.sup (own0 := .blk p 3 [.int .i64 Mi] :: r) Sup.auto ?_
    refine (ih kd (List.mem_of_getElem? hkd)).run hvv i2 (by omega) ?_
    generalize fewX 4 5 kd Mi = R at i4 hleft ⊢
    obtain ⟨R1, R2⟩ := R
    dsimp only at i4 hleft ⊢
    cases R1 with
    | true =>
      rw [if_pos rfl] at i4
      obtain ⟨h5, h6⟩ := hleft rfl
      repeat (first | exact endA | refine wkP ?_ | refine opB (fun b => ?_) | refine opA (fun a' c' hc1 hc2 => ?_) | (apply GJ.and; exact rfl; intro hg) | (apply GJ.or; exact rfl; intro hg))
      refine Wk.id ⟨(i + 1, R2), ⟨rfl, ?_⟩, ?_, Sub.auto, Sup.auto⟩
      all_goals try dsimp only
      · exact ⟨by omega, h5, by omega, i4⟩
      · omega
    | false =>
      rw [if_neg (by decide)] at i4
      rw [i4] at hk
      repeat (first | exact endA | refine wkP ?_ | refine opB (fun b => ?_) | refine opA (fun a' c' hc1 hc2 => ?_) | (apply GJ.and; exact rfl; intro hg) | (apply GJ.or; exact rfl; intro hg))
      exact Wk.outS Sup.auto (.refl _) hk
  · obtain rfl : i = l.length := by omega
    rw [List.drop_length, fewY] at i4
    dsimp only at i4
    rw [i4] at hk
    repeat (first | exact endA | refine wkP ?_ | refine opB (fun b => ?_) | refine opA (fun a' c' hc1 hc2 => ?_) | (apply GJ.and; exact rfl; intro hg) | (apply GJ.or; exact rfl; intro hg))
    exact Wk.outS Sup.auto (.refl _) hk⟩
/-- Is there an automaton (made)? -/
def mdB (n : RgD) : Prop := (fewX 4 5 n 16).1 = true ∧ (makeN n).1 = 0 ∧ (makeA (makeN n).2).1 = 0
section
variable {ro : Ro} {own r : Chs} {K : Value → Ro → Chs → Prop} {g : Chunk → Chs}
theorem dmade_ok {n : RgD} {v : List Value} (ht : TabOk ro) (hv : RgOk ro n v)
    (hk0 : ∀ ro', Le ro ro' → ¬ mdB n → K (.tuple #[.pointer none, .pointer none, .bool false]) ro' own)
    (hk1 : ∀ ro' p q, Le ro ro' → mdB n → DAt ro' p (makeA (makeN n).2).2 → DAt ro' q (lstD n) → K (.tuple #[ptr' p, ptr' q, .bool true]) ro' own) :
    CallOk Tryz.prog 9 #[.agg v.toArray] ro own K := by
  have hin := rg_ins hv
  obtain ⟨a1, c1, hvc⟩ := hv.cells
  have hv0 := hv
  subst hvc
  have hK := make_k hin
  refine CallOk.intro (args := [_]) (rs := [_, _, _]) T_ok Tryz.func9 Tryz.call9 rfl rfl (by kernel_rfl) rfl rfl ?_
  repeat (first | exact endA | refine wkP ?_ | refine opB (fun b => ?_) | refine opA (fun a' c' hc1 hc2 => ?_) | (apply GJ.and; exact rfl; intro hg) | (apply GJ.or; exact rfl; intro hg))
  refine (fw8C n).run hv0 (by decide) (by decide) ?_
  by_cases hf : (fewX 4 5 n 16).1 = true
  · rw [hf]
    repeat (first | exact endA | refine wkP ?_ | refine opB (fun b => ?_) | refine opA (fun a' c' hc1 hc2 => ?_) | (apply GJ.and; exact rfl; intro hg) | (apply GJ.or; exact rfl; intro hg))
    refine nmake_ok hv0 (fun ro2 v2 hl2 hA => ?_)
    have hA0 := hA
    by_cases h1 : (makeN n).1 = 0
    · obtain ⟨hw, hsl⟩ := make_size h1
      rw [h1]
      obtain ⟨ad, cp, hs, rfl, hrs, hrw⟩ := hA
      repeat (first | exact endA | refine wkP ?_ | refine opB (fun b => ?_) | refine opA (fun a' c' hc1 hc2 => ?_) | (apply GJ.and; exact rfl; intro hg) | (apply GJ.or; exact rfl; intro hg))
      refine dmake_ok hA0 hK (ht.le hl2) hsl (fun h2 ro3 hl3 => ?_) (fun h2 ro3 p hl3 hp => ?_)
      · repeat (first | exact endA | refine wkP ?_ | refine opB (fun b => ?_) | refine opA (fun a' c' hc1 hc2 => ?_) | (apply GJ.and; exact rfl; intro hg) | (apply GJ.or; exact rfl; intro hg))
        exact Wk.outS Sup.auto (.refl _) (hk0 ro3 (hl2.trans hl3) (fun h => h2 h.2.2))
      · have hm := (made_a2 hK.ok.to hK.sets h2).1
        obtain ⟨w, hw6, ho, hs⟩ := hm.ok
        repeat (first | exact endA | refine wkP ?_ | refine opB (fun b => ?_) | refine opA (fun a' c' hc1 hc2 => ?_) | (apply GJ.and; exact rfl; intro hg) | (apply GJ.or; exact rfl; intro hg))
        refine dleast_ok hp ho hs hw6 hm.pos hm.le (fun ro4 p4 hl4 hp4 => ?_)
        repeat (first | exact endA | refine wkP ?_ | refine opB (fun b => ?_) | refine opA (fun a' c' hc1 hc2 => ?_) | (apply GJ.and; exact rfl; intro hg) | (apply GJ.or; exact rfl; intro hg))
        exact Wk.outS Sup.auto (.refl _) (hk1 ro4 p p4 ((hl2.trans hl3).trans hl4) ⟨hf, h1, h2⟩ (hp.le hl4) hp4)
    · have hz : (makeN n).1 ≠ 0 := h1
      obtain ⟨ad, cp, hs, rfl, hrs, hrw⟩ := hA
      repeat (first | exact endA | refine wkP ?_ | refine opB (fun b => ?_) | refine opA (fun a' c' hc1 hc2 => ?_) | (apply GJ.and; exact rfl; intro hg) | (apply GJ.or; exact rfl; intro hg))
      exact Wk.outS Sup.auto (.refl _) (hk0 ro2 hl2 (fun h => h1 h.2.1))
  · rw [Bool.not_eq_true] at hf
    rw [hf]
    repeat (first | exact endA | refine wkP ?_ | refine opB (fun b => ?_) | refine opA (fun a' c' hc1 hc2 => ?_) | (apply GJ.and; exact rfl; intro hg) | (apply GJ.or; exact rfl; intro hg))
    exact Wk.outS Sup.auto (.refl _) (hk0 ro (Le.refl _) (fun h => Bool.noConfusion (hf.symm.trans h.1)))
end
end Go.Proofs.YtinbmhbfcoiefaaGreatDoor
end
section
/- Contracts of dfa's laws: makes (the automaton of some as and a b). -/
namespace Go.Proofs.YtinbmhbfcoiefaaGreatDoor
open Go Go.E
set_option linter.unusedVariables false
set_option linter.unusedSimpArgs false
set_option maxRecDepth 10000
def abT : List UInt8 := [97, 43, 98]
def abD : RgD := (parseD abT).1
theorem ab_ok : (parseD abT).2 = (0, 0) := by kernel_rfl
theorem ab_make : (makeN abD).1 = 0 := by kernel_rfl
theorem ab_makeA : (makeA (makeN abD).2).1 = 0 := by kernel_rfl
theorem ab_e : lstE abD = 0 := by
  unfold lstE
  rw [ab_make, if_neg (by decide)]
  exact ab_makeA
theorem ab_len : (lstD abD).next.length = 3 := by kernel_rfl
theorem ab_width : widthA (lstD abD) = 3 := by kernel_rfl
theorem ab_m1 : matchA (lstD abD) [97, 97, 98] = true := by kernel_rfl
theorem ab_m2 : matchA (lstD abD) [97, 97, 98, 98] = false := by kernel_rfl
theorem ab_s1 : stepA (lstD abD) 0 98 = -1 := by kernel_rfl
theorem ab_s2 : stepA (lstD abD) 0 97 = 1 := by kernel_rfl
theorem ab_e1 : endsA (lstD abD) 2 = true := by kernel_rfl
theorem ab_e2 : endsA (lstD abD) (-1) = false := by kernel_rfl
/-- What is known of an expression's least automaton. -/
theorem lst_least {n : RgD} {v : List Value} {ro : Ro} (hv : RgOk ro n v) (h : lstE n = 0) : LeastA (lstD n) ∧ MadeA (makeA (makeN n).2).2 := by
  have hK := make_k (rg_ins hv)
  unfold lstE at h
  have h1 : (makeN n).1 = 0 := by
    refine Decidable.byContradiction fun hn => ?_
    rw [if_pos hn] at h
    exact hn h
  rw [h1, if_neg (by decide)] at h
  have hm := (made_a2 hK.ok.to hK.sets h).1
  exact ⟨hm.least.1, hm⟩
section
variable {ro : Ro} {own r : Chs} {K : Value → Ro → Chs → Prop} {g : Chunk → Chs}
theorem makes08_ok (ht : TabOk ro) (hk : ∀ ro', Le ro ro' → K (.bool true) ro' own) : CallOk Tryz.prog 8 #[] ro own K := by
  refine CallOk.intro (args := []) (rs := [_]) T_ok Tryz.func8 Tryz.call8 rfl rfl (by kernel_rfl) rfl rfl ?_
  repeat (first | exact endA | refine wkP ?_ | refine opB (fun b => ?_) | refine opA (fun a' c' hc1 hc2 => ?_) | (apply GJ.and; exact rfl; intro hg) | (apply GJ.or; exact rfl; intro hg))
  refine rparse_ok (t := abT) (by decide) (fun ro2 v hl2 hv => ?_)
  rw [ab_ok]
  have hab : (parseD abT).1 = abD := rfl
  rw [hab] at hv
  have hv0 := hv
  obtain ⟨a1, c1, hvc⟩ := hv.cells
  subst hvc
  obtain ⟨hlst, hmd⟩ := lst_least hv0 ab_e
  have he := ab_e
  have f1 := ab_len
  have f2 := ab_width
  have f3 := ab_m1
  have f4 := ab_m2
  have f5 := ab_s1
  have f6 := ab_s2
  have f7 := ab_e1
  have f8 := ab_e2
  clear hab hv
  generalize abD = n at *
  obtain ⟨w, hw6, ho, hsu, hsx⟩ := hlst.ok
  clear hlst hsu hw6 hsx hmd
  repeat (first | exact endA | refine wkP ?_ | refine opB (fun b => ?_) | refine opA (fun a' c' hc1 hc2 => ?_) | (apply GJ.and; exact rfl; intro hg) | (apply GJ.or; exact rfl; intro hg))
  refine dof_ok (ht.le hl2) hv0 (fun ro3 P hl3 hP => ?_)
  rw [he]
  obtain ⟨_, p, rfl, hp⟩ := hP.resolve_left (fun h => h.1 he)
  repeat (first | exact endA | refine wkP ?_ | refine opB (fun b => ?_) | refine opA (fun a' c' hc1 hc2 => ?_) | (apply GJ.and; exact rfl; intro hg) | (apply GJ.or; exact rfl; intro hg))
  refine later_ok (fun q => ?_)
  repeat (first | exact endA | refine wkP ?_ | refine opB (fun b => ?_) | refine opA (fun a' c' hc1 hc2 => ?_) | (apply GJ.and; exact rfl; intro hg) | (apply GJ.or; exact rfl; intro hg))
  refine lauto0_ok (n := n) (a := a1) (c := c1) (x := 0) ((ht.le hl2).le hl3) (hv0.le hl3) (by decide) (fun ro4 P2 hl4 hP2 => ?_)
  rw [he]
  obtain ⟨_, p2, rfl, hp2⟩ := hP2.resolve_left (fun h => h.1 he)
  dsimp only [lz1]
  rw [he]
  repeat (first | exact endA | refine wkP ?_ | refine opB (fun b => ?_) | refine opA (fun a' c' hc1 hc2 => ?_) | (apply GJ.and; exact rfl; intro hg) | (apply GJ.or; exact rfl; intro hg))
  refine counts_ok (by decide) ?_
  repeat (first | exact endA | refine wkP ?_ | refine opB (fun b => ?_) | refine opA (fun a' c' hc1 hc2 => ?_) | (apply GJ.and; exact rfl; intro hg) | (apply GJ.or; exact rfl; intro hg))
  have hq := hp.le hl4
  refine dsame_ok hq hp2 ?_
  repeat (first | exact endA | refine wkP ?_ | refine opB (fun b => ?_) | refine opA (fun a' c' hc1 hc2 => ?_) | (apply GJ.and; exact rfl; intro hg) | (apply GJ.or; exact rfl; intro hg))
  refine dlen_ok hq ?_
  rw [f1]
  repeat (first | exact endA | refine wkP ?_ | refine opB (fun b => ?_) | refine opA (fun a' c' hc1 hc2 => ?_) | (apply GJ.and; exact rfl; intro hg) | (apply GJ.or; exact rfl; intro hg))
  refine dwidth_ok hq ?_
  rw [f2]
  repeat (first | exact endA | refine wkP ?_ | refine opB (fun b => ?_) | refine opA (fun a' c' hc1 hc2 => ?_) | (apply GJ.and; exact rfl; intro hg) | (apply GJ.or; exact rfl; intro hg))
  refine OpOk.bytesConst rfl rfl rfl rfl (fun ro5 hl5 hr5 => ?_)
  have hq := hq.le hl5
  repeat (first | exact endA | refine wkP ?_ | refine opB (fun b => ?_) | refine opA (fun a' c' hc1 hc2 => ?_) | (apply GJ.and; exact rfl; intro hg) | (apply GJ.or; exact rfl; intro hg))
  refine dmatch_ok (tx := [97, 97, 98]) hq ho hr5.rds rfl ?_
  rw [f3]
  repeat (first | exact endA | refine wkP ?_ | refine opB (fun b => ?_) | refine opA (fun a' c' hc1 hc2 => ?_) | (apply GJ.and; exact rfl; intro hg) | (apply GJ.or; exact rfl; intro hg))
  refine OpOk.bytesConst rfl rfl rfl rfl (fun ro6 hl6 hr6 => ?_)
  have hq := hq.le hl6
  repeat (first | exact endA | refine wkP ?_ | refine opB (fun b => ?_) | refine opA (fun a' c' hc1 hc2 => ?_) | (apply GJ.and; exact rfl; intro hg) | (apply GJ.or; exact rfl; intro hg))
  refine dmatch_ok (tx := [97, 97, 98, 98]) hq ho hr6.rds rfl ?_
  rw [f4]
  repeat (first | exact endA | refine wkP ?_ | refine opB (fun b => ?_) | refine opA (fun a' c' hc1 hc2 => ?_) | (apply GJ.and; exact rfl; intro hg) | (apply GJ.or; exact rfl; intro hg))
  refine dstep_ok (c := 98) hq ho (by decide) ?_
  rw [f5]
  repeat (first | exact endA | refine wkP ?_ | refine opB (fun b => ?_) | refine opA (fun a' c' hc1 hc2 => ?_) | (apply GJ.and; exact rfl; intro hg) | (apply GJ.or; exact rfl; intro hg))
  refine dstep_ok (c := 97) hq ho (by decide) ?_
  rw [f6]
  repeat (first | exact endA | refine wkP ?_ | refine opB (fun b => ?_) | refine opA (fun a' c' hc1 hc2 => ?_) | (apply GJ.and; exact rfl; intro hg) | (apply GJ.or; exact rfl; intro hg))
  refine dends_ok hq ?_
  rw [f7]
  repeat (first | exact endA | refine wkP ?_ | refine opB (fun b => ?_) | refine opA (fun a' c' hc1 hc2 => ?_) | (apply GJ.and; exact rfl; intro hg) | (apply GJ.or; exact rfl; intro hg))
  refine dends_ok hq ?_
  rw [f8]
  repeat (first | exact endA | refine wkP ?_ | refine opB (fun b => ?_) | refine opA (fun a' c' hc1 hc2 => ?_) | (apply GJ.and; exact rfl; intro hg) | (apply GJ.or; exact rfl; intro hg))
  exact Wk.outS Sup.auto (.refl _) (hk ro6 ((((hl2.trans hl3).trans hl4).trans hl5).trans hl6))
end
end Go.Proofs.YtinbmhbfcoiefaaGreatDoor
end
section
/- The law DfaOrder, walked. -/
namespace Go.E
open Go
theorem OpOk.after {P : Program} {op : Op} {ty : TypeId} {env : Env} {ro : Ro} {own : Chs} {K : Value → Ro → Chs → Prop} (h : OpOk P op ty env ro own (fun v ro1 own1 => ∃ c r, Take own1 c r ∧ ∀ ro', Le ro1 ro' → c.holds ro' → K v ro' r)) : OpOk P op ty env ro own K :=
  ⟨fun g hg d pos af gd => .mk fun ρ w hρ hw => by
    obtain ⟨v, w', h1, h2, ro2, own2, hl2, hs2, c, r, ht, hK⟩ := (h.run g hg d pos af gd).run ρ w hρ hw
    obtain ⟨ro3, hl3, hc, hs3⟩ := (hs2.perm ht.perm).freeze
    exact ⟨v, w', h1, h2, ro3, r, hl2.trans hl3, hs3, hK ro3 hl3 hc⟩⟩
/-- A slice put together that lasts at once. -/
theorem OpOk.buildSliceF {P : Program} {T : TT} [hT : TTab P T] {ty : TypeId} {env : Env} {ro : Ro} {own : Chs} {K : Value → Ro → Chs → Prop} {t e n : Nat} {ps : List (Nat × Operand)} {vs : List Value} {s : Nat} (hv : evs env (ps.map (·.2)) = some vs) (hp : ps.map (·.1) = List.range n) (ht : elemOf T t = some (e, s))
    (hn : Nat.ble (n * s) 1048576 = true) (h1 : vs.all (fun v => Nat.beq v.cells.size s) = true) (hk : ∀ ro' b, Le ro ro' → Rs ro' (some ⟨b, 0, none⟩) n n s (flat vs) → K (.slice (some ⟨b, 0, none⟩) n n) ro' own) :
    OpOk P (.buildSlice t n ps.toArray) ty env ro own K :=
  OpOk.after (OpOk.buildSlice hv hp ht hn h1 (fun b => ⟨_, _, Take.hit _ _, fun ro' hl hc => hk ro' b hl (Rs.last hc)⟩))
end Go.E
namespace Go.Proofs.YtinbmhbfcoiefaaGreatDoor
open Go Go.E
set_option linter.unusedVariables false
set_option linter.unusedSimpArgs false
set_option maxRecDepth 10000
theorem RgOk.one' {ro : Ro} {k lo hi : Int} {b : Nat} {x : RgD} {v cs : List Value} (h : Rs ro (some ⟨b, 0, none⟩) 1 1 8 cs) (hc : cs = v) (hx : RgOk ro x v) : RgOk ro (.mk k zeroS [x] lo hi) (nodeV k zeroS (some ⟨b, 0, none⟩) 1 1 lo hi) := by
  subst hc
  rw [RgOk]
  refine ⟨_, _, cs, rfl, zeroS_in, h, ?_⟩
  rw [RgsOk]
  exact ⟨cs, [], by simp, hx, by rw [RgsOk]⟩
theorem RgOk.two' {ro : Ro} {k lo hi : Int} {b : Nat} {x y : RgD} {v u cs : List Value} (h : Rs ro (some ⟨b, 0, none⟩) 2 2 8 cs) (hc : cs = v ++ u) (hx : RgOk ro x v) (hy : RgOk ro y u) : RgOk ro (.mk k zeroS [x, y] lo hi) (nodeV k zeroS (some ⟨b, 0, none⟩) 2 2 lo hi) := by
  subst hc
  rw [RgOk]
  refine ⟨_, _, _, rfl, zeroS_in, h, ?_⟩
  rw [RgsOk]
  refine ⟨v, u, rfl, hx, ?_⟩
  rw [RgsOk]
  exact ⟨u, [], by simp, hy, by rw [RgsOk]⟩
theorem RgOk.none' (ro : Ro) : RgOk ro (.mk 1 zeroS [] 0 0) (nodeV 1 zeroS none 0 0 0 0) := by
  rw [RgOk]
  exact ⟨_, _, [], rfl, zeroS_in, Rs.nil ro 8, by rw [RgsOk]⟩
/-- Of two expressions that stand for the same the least automata are the same. -/
theorem lst_order {ro ro' : Ro} {n m : RgD} {v u : List Value} (hv : RgOk ro n v) (hu : RgOk ro' m u) (hn : mdB n) (hm : mdB m) (h : ∀ w, langN n w ↔ langN m w) : lstD n = lstD m := by
  obtain ⟨a1, a2, a3⟩ := hn
  obtain ⟨b1, b2, b3⟩ := hm
  have hK := make_k (rg_ins hv)
  have hJ := make_k (rg_ins hu)
  obtain ⟨w1, _⟩ := make_size a2
  obtain ⟨w2, _⟩ := make_size b2
  obtain ⟨p1, _, p2, _⟩ := dfa_lang w1 hK.sets a2 a3
  obtain ⟨q1, _, q2, _⟩ := dfa_lang w2 hJ.sets b2 b3
  exact p1.same q1 fun x => by rw [Bool.eq_iff_iff, p2, q2]; exact h x
section
variable {ro : Ro} {own r : Chs} {K : Value → Ro → Chs → Prop} {g : Chunk → Chs}
set_option maxHeartbeats 4000000 in
theorem dorder_law {n m : RgD} {v u : List Value} (ht : TabOk ro) (hv : RgOk ro n v) (hu : RgOk ro m u) (hk : K (.bool true) ro own) : CallOk Tryz.prog 5 #[.agg v.toArray, .agg u.toArray] ro own K := by
  refine CallOk.back ?_
  obtain ⟨a1, c1, hvc⟩ := hv.cells
  obtain ⟨a2, c2, huc⟩ := hu.cells
  have hv0 := hv
  have hu0 := hu
  subst hvc
  subst huc
  refine CallOk.intro (args := [_, _]) (rs := [_]) T_ok Tryz.func5 Tryz.call5 rfl rfl (by kernel_rfl) rfl rfl ?_
  repeat (first | exact endA | refine wkP ?_ | refine opB (fun b => ?_) | refine opA (fun a' c' hc1 hc2 => ?_) | (apply GJ.and; exact rfl; intro hg) | (apply GJ.or; exact rfl; intro hg))
  refine makes08_ok ht (fun ro1 hl1 => ?_)
  have hv1 := hv0.le hl1
  have hu1 := hu0.le hl1
  have ht1 := ht.le hl1
  clear hv hu hv0 hu0 ht
  repeat (first | exact endA | refine wkP ?_)
  refine OpOk.buildSliceF rfAuto rfAuto rfAuto rfAuto rfAuto (fun ro2 b1 hl2 hb1 => ?_)
  repeat (first | exact endA | refine wkP ?_)
  refine OpOk.buildSliceF rfAuto rfAuto rfAuto rfAuto rfAuto (fun ro3 b2 hl3 hb2 => ?_)
  repeat (first | exact endA | refine wkP ?_)
  refine OpOk.buildK (ps := [(0, .tmp 18), (1, .tmp 22)]) (nodeV 4 zeroS (some ⟨b1, 0, none⟩) 2 2 0 0 ++ nodeV 4 zeroS (some ⟨b2, 0, none⟩) 2 2 0 0) rfl (by kernel_rfl) ?_
  repeat (first | exact endA | refine wkP ?_)
  refine OpOk.buildSliceF rfAuto rfAuto rfAuto rfAuto rfAuto (fun ro4 b3 hl4 hb3 => ?_)
  repeat (first | exact endA | refine wkP ?_)
  refine OpOk.buildSliceF rfAuto rfAuto rfAuto rfAuto rfAuto (fun ro5 b4 hl5 hb4 => ?_)
  repeat (first | exact endA | refine wkP ?_)
  refine OpOk.buildSliceF rfAuto rfAuto rfAuto rfAuto rfAuto (fun ro6 b5 hl6 hb5 => ?_)
  repeat (first | exact endA | refine wkP ?_)
  refine OpOk.buildK (ps := [(0, .tmp 26), (1, .tmp 32)]) (nodeV 5 zeroS (some ⟨b3, 0, none⟩) 1 1 0 (-1) ++ nodeV 4 zeroS (some ⟨b5, 0, none⟩) 2 2 0 0) rfl (by kernel_rfl) ?_
  repeat (first | exact endA | refine wkP ?_)
  refine OpOk.buildSliceF rfAuto rfAuto rfAuto rfAuto rfAuto (fun ro7 b6 hl7 hb6 => ?_)
  repeat (first | exact endA | refine wkP ?_)
  refine OpOk.buildK (ps := [(0, .tmp 37), (1, .tmp 38)]) (nodeV 3 zeroS (some ⟨b6, 0, none⟩) 2 2 0 0 ++ nodeV n.kind n.set a1 n.kids.length c1 n.min n.max) rfl (by kernel_rfl) ?_
  repeat (first | exact endA | refine wkP ?_)
  refine OpOk.buildK (ps := [(0, .tmp 23), (1, .tmp 33), (2, .tmp 39)]) ((nodeV 4 zeroS (some ⟨b1, 0, none⟩) 2 2 0 0 ++ nodeV 4 zeroS (some ⟨b2, 0, none⟩) 2 2 0 0) ++ (nodeV 5 zeroS (some ⟨b3, 0, none⟩) 1 1 0 (-1) ++ nodeV 4 zeroS (some ⟨b5, 0, none⟩) 2 2 0 0) ++ (nodeV 3 zeroS (some ⟨b6, 0, none⟩) 2 2 0 0 ++ nodeV n.kind n.set a1 n.kids.length c1 n.min n.max)) rfl (by kernel_rfl) ?_
  have hA := RgOk.two' (k := 4) (lo := 0) (hi := 0) hb1 rfl (hv1.le hl2) (hu1.le hl2)
  have hB := RgOk.two' (k := 4) (lo := 0) (hi := 0) hb2 rfl ((hu1.le hl2).le hl3) ((hv1.le hl2).le hl3)
  have hv3 := (hv1.le hl2).le hl3
  have hC := RgOk.one' (k := 5) (lo := 0) (hi := -1) hb3 rfl (hv3.le hl4)
  have hv4 := hv3.le hl4
  have hD := RgOk.one' (k := 5) (lo := 1) (hi := -1) hb4 rfl (hv4.le hl5)
  have hv5 := (hv4.le hl5).le hl6
  have hE := RgOk.two' (k := 4) (lo := 0) (hi := 0) hb5 rfl (RgOk.none' ro6) (hD.le hl6)
  have hv6 := hv5.le hl7
  have hF := RgOk.two' (k := 3) (lo := 0) (hi := 0) hb6 rfl (RgOk.none' ro7) hv6
  clear hb1 hb2 hb3 hb4 hb5 hb6
  have ht7 := (((((ht1.le hl2).le hl3).le hl4).le hl5).le hl6).le hl7
  have hA7 := ((((hA.le hl3).le hl4).le hl5).le hl6).le hl7
  have hB7 := (((hB.le hl4).le hl5).le hl6).le hl7
  have hC7 := ((hC.le hl5).le hl6).le hl7
  have hE7 := hE.le hl7
  clear hA hB hC hD hE hv1 hu1 hv3 hv4 hv5 ht1
  repeat (first | exact endA | refine wkP ?_ | refine opB (fun b => ?_) | refine opA (fun a' c' hc1 hc2 => ?_) | (apply GJ.and; exact rfl; intro hg) | (apply GJ.or; exact rfl; intro hg))
  refine LoopOk.auto (ι := Nat) Keep.auto (fun i => [(41, .int .i64 (i : Int))]) (fun i => own) (fun i rc => i ≤ 3) (fun i => 3 - i) 0 ?_ Sub.auto Sup.auto ?_
  · exact Nat.zero_le _
  intro i rc hlc i1
  dsimp only [List.cons_append, List.nil_append] at i1 ⊢
  by_cases hi : i < 3
  · obtain rfl | rfl | rfl : i = 0 ∨ i = 1 ∨ i = 2 := by omega
    · repeat (first | exact endA | refine wkP ?_ | refine opB (fun b => ?_) | refine opA (fun a' c' hc1 hc2 => ?_) | (apply GJ.and; exact rfl; intro hg) | (apply GJ.or; exact rfl; intro hg))
      refine OpOk.indexRow (k := 0) (e := 43) (n := 3) (z := 16) (vs := nodeV 4 zeroS (some ⟨b1, 0, none⟩) 2 2 0 0 ++ nodeV 4 zeroS (some ⟨b2, 0, none⟩) 2 2 0 0) rfl rfl (by kernel_rfl) (.inr ⟨2, 26, by kernel_rfl⟩) (by kernel_rfl) rfl (by decide) (by rfl) ?_
      repeat (first | exact endA | refine wkP ?_ | refine opB (fun b => ?_) | refine opA (fun a' c' hc1 hc2 => ?_) | (apply GJ.and; exact rfl; intro hg) | (apply GJ.or; exact rfl; intro hg))
      refine dmade_ok (ht7.le hlc) (hA7.le hlc) (fun rx hlx hnx => ?_) (fun rx p1 q1 hlx hmx hp1 hq1 => ?_)
      · repeat (first | exact endA | refine wkP ?_ | refine opB (fun b => ?_) | refine opA (fun a' c' hc1 hc2 => ?_) | (apply GJ.and; exact rfl; intro hg) | (apply GJ.or; exact rfl; intro hg))
        refine dmade_ok ((ht7.le hlc).le hlx) ((hB7.le hlc).le hlx) (fun ry hly hny => ?_) (fun ry p2 q2 hly hmy hp2 hq2 => ?_)
        · repeat (first | exact endA | refine wkP ?_ | refine opB (fun b => ?_) | refine opA (fun a' c' hc1 hc2 => ?_) | (apply GJ.and; exact rfl; intro hg) | (apply GJ.or; exact rfl; intro hg))
          refine Wk.id ⟨0 + 1, ?_, ?_, Sub.auto, Sup.auto⟩
          all_goals try dsimp only
          · omega
          · omega
        · repeat (first | exact endA | refine wkP ?_ | refine opB (fun b => ?_) | refine opA (fun a' c' hc1 hc2 => ?_) | (apply GJ.and; exact rfl; intro hg) | (apply GJ.or; exact rfl; intro hg))
          refine Wk.id ⟨0 + 1, ?_, ?_, Sub.auto, Sup.auto⟩
          all_goals try dsimp only
          · omega
          · omega
      · repeat (first | exact endA | refine wkP ?_ | refine opB (fun b => ?_) | refine opA (fun a' c' hc1 hc2 => ?_) | (apply GJ.and; exact rfl; intro hg) | (apply GJ.or; exact rfl; intro hg))
        refine dmade_ok ((ht7.le hlc).le hlx) ((hB7.le hlc).le hlx) (fun ry hly hny => ?_) (fun ry p2 q2 hly hmy hp2 hq2 => ?_)
        · repeat (first | exact endA | refine wkP ?_ | refine opB (fun b => ?_) | refine opA (fun a' c' hc1 hc2 => ?_) | (apply GJ.and; exact rfl; intro hg) | (apply GJ.or; exact rfl; intro hg))
          refine Wk.id ⟨0 + 1, ?_, ?_, Sub.auto, Sup.auto⟩
          all_goals try dsimp only
          · omega
          · omega
        · have he := lst_order hA7 hB7 hmx hmy (fun w => order_alt n m zeroS zeroS 0 0 0 0 w)
          rw [← he] at hq2
          repeat (first | exact endA | refine wkP ?_ | refine opB (fun b => ?_) | refine opA (fun a' c' hc1 hc2 => ?_) | (apply GJ.and; exact rfl; intro hg) | (apply GJ.or; exact rfl; intro hg))
          refine dsame_ok (hq1.le hly) hq2 ?_
          repeat (first | exact endA | refine wkP ?_ | refine opB (fun b => ?_) | refine opA (fun a' c' hc1 hc2 => ?_) | (apply GJ.and; exact rfl; intro hg) | (apply GJ.or; exact rfl; intro hg))
          refine Wk.id ⟨0 + 1, ?_, ?_, Sub.auto, Sup.auto⟩
          all_goals try dsimp only
          · omega
          · omega
    · repeat (first | exact endA | refine wkP ?_ | refine opB (fun b => ?_) | refine opA (fun a' c' hc1 hc2 => ?_) | (apply GJ.and; exact rfl; intro hg) | (apply GJ.or; exact rfl; intro hg))
      refine OpOk.indexRow (k := 1) (e := 43) (n := 3) (z := 16) (vs := nodeV 5 zeroS (some ⟨b3, 0, none⟩) 1 1 0 (-1) ++ nodeV 4 zeroS (some ⟨b5, 0, none⟩) 2 2 0 0) rfl rfl (by kernel_rfl) (.inr ⟨2, 26, by kernel_rfl⟩) (by kernel_rfl) rfl (by decide) (by rfl) ?_
      repeat (first | exact endA | refine wkP ?_ | refine opB (fun b => ?_) | refine opA (fun a' c' hc1 hc2 => ?_) | (apply GJ.and; exact rfl; intro hg) | (apply GJ.or; exact rfl; intro hg))
      refine dmade_ok (ht7.le hlc) (hC7.le hlc) (fun rx hlx hnx => ?_) (fun rx p1 q1 hlx hmx hp1 hq1 => ?_)
      · repeat (first | exact endA | refine wkP ?_ | refine opB (fun b => ?_) | refine opA (fun a' c' hc1 hc2 => ?_) | (apply GJ.and; exact rfl; intro hg) | (apply GJ.or; exact rfl; intro hg))
        refine dmade_ok ((ht7.le hlc).le hlx) ((hE7.le hlc).le hlx) (fun ry hly hny => ?_) (fun ry p2 q2 hly hmy hp2 hq2 => ?_)
        · repeat (first | exact endA | refine wkP ?_ | refine opB (fun b => ?_) | refine opA (fun a' c' hc1 hc2 => ?_) | (apply GJ.and; exact rfl; intro hg) | (apply GJ.or; exact rfl; intro hg))
          refine Wk.id ⟨1 + 1, ?_, ?_, Sub.auto, Sup.auto⟩
          all_goals try dsimp only
          · omega
          · omega
        · repeat (first | exact endA | refine wkP ?_ | refine opB (fun b => ?_) | refine opA (fun a' c' hc1 hc2 => ?_) | (apply GJ.and; exact rfl; intro hg) | (apply GJ.or; exact rfl; intro hg))
          refine Wk.id ⟨1 + 1, ?_, ?_, Sub.auto, Sup.auto⟩
          all_goals try dsimp only
          · omega
          · omega
      · repeat (first | exact endA | refine wkP ?_ | refine opB (fun b => ?_) | refine opA (fun a' c' hc1 hc2 => ?_) | (apply GJ.and; exact rfl; intro hg) | (apply GJ.or; exact rfl; intro hg))
        refine dmade_ok ((ht7.le hlc).le hlx) ((hE7.le hlc).le hlx) (fun ry hly hny => ?_) (fun ry p2 q2 hly hmy hp2 hq2 => ?_)
        · repeat (first | exact endA | refine wkP ?_ | refine opB (fun b => ?_) | refine opA (fun a' c' hc1 hc2 => ?_) | (apply GJ.and; exact rfl; intro hg) | (apply GJ.or; exact rfl; intro hg))
          refine Wk.id ⟨1 + 1, ?_, ?_, Sub.auto, Sup.auto⟩
          all_goals try dsimp only
          · omega
          · omega
        · have he := lst_order hC7 hE7 hmx hmy (fun w => order_rep n zeroS zeroS zeroS zeroS 0 0 0 0 (-1) (by decide) [] w)
          rw [← he] at hq2
          repeat (first | exact endA | refine wkP ?_ | refine opB (fun b => ?_) | refine opA (fun a' c' hc1 hc2 => ?_) | (apply GJ.and; exact rfl; intro hg) | (apply GJ.or; exact rfl; intro hg))
          refine dsame_ok (hq1.le hly) hq2 ?_
          repeat (first | exact endA | refine wkP ?_ | refine opB (fun b => ?_) | refine opA (fun a' c' hc1 hc2 => ?_) | (apply GJ.and; exact rfl; intro hg) | (apply GJ.or; exact rfl; intro hg))
          refine Wk.id ⟨1 + 1, ?_, ?_, Sub.auto, Sup.auto⟩
          all_goals try dsimp only
          · omega
          · omega
    · repeat (first | exact endA | refine wkP ?_ | refine opB (fun b => ?_) | refine opA (fun a' c' hc1 hc2 => ?_) | (apply GJ.and; exact rfl; intro hg) | (apply GJ.or; exact rfl; intro hg))
      refine OpOk.indexRow (k := 2) (e := 43) (n := 3) (z := 16) (vs := nodeV 3 zeroS (some ⟨b6, 0, none⟩) 2 2 0 0 ++ nodeV n.kind n.set a1 n.kids.length c1 n.min n.max) rfl rfl (by kernel_rfl) (.inr ⟨2, 26, by kernel_rfl⟩) (by kernel_rfl) rfl (by decide) (by rfl) ?_
      repeat (first | exact endA | refine wkP ?_ | refine opB (fun b => ?_) | refine opA (fun a' c' hc1 hc2 => ?_) | (apply GJ.and; exact rfl; intro hg) | (apply GJ.or; exact rfl; intro hg))
      refine dmade_ok (ht7.le hlc) (hF.le hlc) (fun rx hlx hnx => ?_) (fun rx p1 q1 hlx hmx hp1 hq1 => ?_)
      · repeat (first | exact endA | refine wkP ?_ | refine opB (fun b => ?_) | refine opA (fun a' c' hc1 hc2 => ?_) | (apply GJ.and; exact rfl; intro hg) | (apply GJ.or; exact rfl; intro hg))
        refine dmade_ok ((ht7.le hlc).le hlx) ((hv6.le hlc).le hlx) (fun ry hly hny => ?_) (fun ry p2 q2 hly hmy hp2 hq2 => ?_)
        · repeat (first | exact endA | refine wkP ?_ | refine opB (fun b => ?_) | refine opA (fun a' c' hc1 hc2 => ?_) | (apply GJ.and; exact rfl; intro hg) | (apply GJ.or; exact rfl; intro hg))
          refine Wk.id ⟨2 + 1, ?_, ?_, Sub.auto, Sup.auto⟩
          all_goals try dsimp only
          · omega
          · omega
        · repeat (first | exact endA | refine wkP ?_ | refine opB (fun b => ?_) | refine opA (fun a' c' hc1 hc2 => ?_) | (apply GJ.and; exact rfl; intro hg) | (apply GJ.or; exact rfl; intro hg))
          refine Wk.id ⟨2 + 1, ?_, ?_, Sub.auto, Sup.auto⟩
          all_goals try dsimp only
          · omega
          · omega
      · repeat (first | exact endA | refine wkP ?_ | refine opB (fun b => ?_) | refine opA (fun a' c' hc1 hc2 => ?_) | (apply GJ.and; exact rfl; intro hg) | (apply GJ.or; exact rfl; intro hg))
        refine dmade_ok ((ht7.le hlc).le hlx) ((hv6.le hlc).le hlx) (fun ry hly hny => ?_) (fun ry p2 q2 hly hmy hp2 hq2 => ?_)
        · repeat (first | exact endA | refine wkP ?_ | refine opB (fun b => ?_) | refine opA (fun a' c' hc1 hc2 => ?_) | (apply GJ.and; exact rfl; intro hg) | (apply GJ.or; exact rfl; intro hg))
          refine Wk.id ⟨2 + 1, ?_, ?_, Sub.auto, Sup.auto⟩
          all_goals try dsimp only
          · omega
          · omega
        · have he := lst_order hF hv6 hmx hmy (fun w => order_cat n zeroS zeroS 0 0 0 0 [] w)
          rw [← he] at hq2
          repeat (first | exact endA | refine wkP ?_ | refine opB (fun b => ?_) | refine opA (fun a' c' hc1 hc2 => ?_) | (apply GJ.and; exact rfl; intro hg) | (apply GJ.or; exact rfl; intro hg))
          refine dsame_ok (hq1.le hly) hq2 ?_
          repeat (first | exact endA | refine wkP ?_ | refine opB (fun b => ?_) | refine opA (fun a' c' hc1 hc2 => ?_) | (apply GJ.and; exact rfl; intro hg) | (apply GJ.or; exact rfl; intro hg))
          refine Wk.id ⟨2 + 1, ?_, ?_, Sub.auto, Sup.auto⟩
          all_goals try dsimp only
          · omega
          · omega
  · obtain rfl : i = 3 := by omega
    repeat (first | exact endA | refine wkP ?_ | refine opB (fun b => ?_) | refine opA (fun a' c' hc1 hc2 => ?_) | (apply GJ.and; exact rfl; intro hg) | (apply GJ.or; exact rfl; intro hg))
    exact Wk.back1 Sup.auto (.refl _) hk
end
end Go.Proofs.YtinbmhbfcoiefaaGreatDoor
end
