/- Texts of a walk, one behind the other. -/
import Derived.Test.YtinbmhbfcoiefaaGreatDoorMg9
import Derived.Test.YtinbmhbfcoiefaaGreatDoorMg10
section
/- Contracts of dfa: Of, Later, Auto, Counts. -/
namespace Go.Proofs.YtinbmhbfcoiefaaGreatDoor
open Go Go.E
set_option linter.unusedVariables false
set_option linter.unusedSimpArgs false
set_option maxRecDepth 10000
/-- Why there is no automaton of an expression (0: there is one), and it. -/
def lstE (n : RgD) : Nat := if (makeN n).1 ≠ 0 then (makeN n).1 else (makeA (makeN n).2).1
def lstD (n : RgD) : DfaA := leastA (makeA (makeN n).2).2
/-- What Of tells first. -/
def OfP (ro : Ro) (n : RgD) (P : Value) : Prop := (lstE n ≠ 0 ∧ P = .pointer none) ∨ (lstE n = 0 ∧ ∃ p, P = ptr' p ∧ DAt ro p (lstD n))
theorem make_check {n : RgD} (h : (makeN n).1 = 0) : (checkD n 512).1 = 0 := by
  unfold makeN at h
  split at h
  · rename_i h1; exact absurd h h1
  · rename_i h1; exact Decidable.of_not_not h1
theorem make_size {n : RgD} (h : (makeN n).1 = 0) : wrongD n = 0 ∧ (setsN (makeN n).2.rows).length ≤ 1000 := by
  obtain ⟨h1, h2, _⟩ := check_zero n 512 (make_check h)
  have := sets_len n
  exact ⟨h1, by omega⟩
section
variable {ro : Ro} {own r : Chs} {K : Value → Ro → Chs → Prop} {g : Chunk → Chs}
theorem dof_ok {n : RgD} {v : List Value} (ht : TabOk ro) (hv : RgOk ro n v) (hk : ∀ ro' P, Le ro ro' → OfP ro' n P → K (.tuple #[P, .int .i64 (lstE n : Int)]) ro' own) :
    CallOk Tryz.prog 20 #[.agg v.toArray] ro own K := by
  have hin := rg_ins hv
  obtain ⟨a1, c1, hvc⟩ := hv.cells
  have hv0 := hv
  subst hvc
  have hK := make_k hin
  refine CallOk.intro (args := [_]) (rs := [_, _]) T_ok Tryz.func20 Tryz.call20 rfl rfl (by kernel_rfl) rfl rfl ?_
  repeat (first | exact endA | refine wkP ?_ | refine opB (fun b => ?_) | refine opA (fun a' c' hc1 hc2 => ?_) | (apply GJ.and; exact rfl; intro hg) | (apply GJ.or; exact rfl; intro hg))
  refine nmake_ok hv0 (fun ro2 v2 hl2 hA => ?_)
  have hA0 := hA
  have hE : lstE n = if (makeN n).1 ≠ 0 then (makeN n).1 else (makeA (makeN n).2).1 := rfl
  have hD : lstD n = leastA (makeA (makeN n).2).2 := rfl
  by_cases h1 : (makeN n).1 = 0
  · obtain ⟨hw, hsl⟩ := make_size h1
    rw [if_neg (by rw [h1]; decide)] at hE
    rw [h1]
    obtain ⟨ad, cp, hs, rfl, hrs, hrw⟩ := hA
    repeat (first | exact endA | refine wkP ?_ | refine opB (fun b => ?_) | refine opA (fun a' c' hc1 hc2 => ?_) | (apply GJ.and; exact rfl; intro hg) | (apply GJ.or; exact rfl; intro hg))
    refine dmake_ok hA0 hK (ht.le hl2) hsl (fun h2 ro3 hl3 => ?_) (fun h2 ro3 p hl3 hp => ?_)
    · rw [← hE] at h2 ⊢
      repeat (first | exact endA | refine wkP ?_ | refine opB (fun b => ?_) | refine opA (fun a' c' hc1 hc2 => ?_) | (apply GJ.and; exact rfl; intro hg) | (apply GJ.or; exact rfl; intro hg))
      exact Wk.outS Sup.auto (.refl _) (hk ro3 _ (hl2.trans hl3) (.inl ⟨h2, rfl⟩))
    · have hm := (made_a2 hK.ok.to hK.sets h2).1
      obtain ⟨w, hw6, ho, hs⟩ := hm.ok
      repeat (first | exact endA | refine wkP ?_ | refine opB (fun b => ?_) | refine opA (fun a' c' hc1 hc2 => ?_) | (apply GJ.and; exact rfl; intro hg) | (apply GJ.or; exact rfl; intro hg))
      refine dleast_ok hp ho hs hw6 hm.pos hm.le (fun ro4 p4 hl4 hp4 => ?_)
      rw [← hD] at hp4
      repeat (first | exact endA | refine wkP ?_ | refine opB (fun b => ?_) | refine opA (fun a' c' hc1 hc2 => ?_) | (apply GJ.and; exact rfl; intro hg) | (apply GJ.or; exact rfl; intro hg))
      have h0 : lstE n = 0 := hE.trans h2
      have := hk ro4 (ptr' p4) ((hl2.trans hl3).trans hl4) (.inr ⟨h0, p4, rfl, hp4⟩)
      rw [h0] at this
      exact Wk.outS Sup.auto (.refl _) this
  · rw [if_pos h1] at hE
    have h2 : lstE n ≠ 0 := by rw [hE]; exact h1
    obtain ⟨ad, cp, hs, rfl, hrs, hrw⟩ := hA
    rw [← hE]
    repeat (first | exact endA | refine wkP ?_ | refine opB (fun b => ?_) | refine opA (fun a' c' hc1 hc2 => ?_) | (apply GJ.and; exact rfl; intro hg) | (apply GJ.or; exact rfl; intro hg))
    exact Wk.outS Sup.auto (.refl _) (hk ro2 _ hl2 (.inl ⟨h2, rfl⟩))
theorem later_ok {n : RgD} {a : Option Addr} {c : Nat} (hk : ∀ q, K (ptr' q) ro (.blk q 97 [.int .i64 n.kind, wV n.set.a, wV n.set.b, wV n.set.c, wV n.set.d, .slice a n.kids.length c, .int .i64 n.min, .int .i64 n.max, .int .u32 0, .int .i32 0, .int .u32 0, .pointer none, .int .i64 0, .int .i64 0, .int .i32 0] :: own)) :
    CallOk Tryz.prog 21 #[.agg (nodeV n.kind n.set a n.kids.length c n.min n.max).toArray] ro own K := by
  refine CallOk.intro (args := [_]) (rs := [_]) T_ok Tryz.func21 Tryz.call21 rfl rfl (by kernel_rfl) rfl rfl ?_
  repeat (first | exact endA | refine wkP ?_ | refine opB (fun b => ?_) | refine opA (fun a' c' hc1 hc2 => ?_) | (apply GJ.and; exact rfl; intro hg) | (apply GJ.or; exact rfl; intro hg))
  exact Wk.outS Sup.auto (.refl _) (hk _)
theorem iadd64_ok {b o : Nat} {t : TypeId} {cs : List Value} {x : Int} [hb : HasBlk own b t cs g] (hx : cs[o]? = some (.int .i64 x)) (hr : 0 ≤ x ∧ x ≤ 1000000) (hk : K (.int .i64 (x + 1)) ro (g (.blk b t (cs.set o (.int .i64 (x + 1)))))) :
    CallOk Tryz.prog 36 #[.pointer (some ⟨b, o, none⟩), .int .i64 1] ro own K := by
  refine CallOk.intro (args := [_, _]) (rs := [_]) T_ok Tryz.func36 Tryz.call36 rfl rfl (by kernel_rfl) rfl rfl ?_
  repeat (first | exact endA | refine wkP ?_ | refine opB (fun b => ?_) | refine opA (fun a' c' hc1 hc2 => ?_) | (apply GJ.and; exact rfl; intro hg) | (apply GJ.or; exact rfl; intro hg))
  refine CallOk.aaddAt Tryz.func60 (by kernel_rfl) (by kernel_rfl) (by kernel_rfl) .i64 (by kernel_rfl) (s := x + 1) hx (by simp [IntKind.wrap, IntKind.bits, IntKind.signed]; omega) ?_
  repeat (first | exact endA | refine wkP ?_ | refine opB (fun b => ?_) | refine opA (fun a' c' hc1 hc2 => ?_) | (apply GJ.and; exact rfl; intro hg) | (apply GJ.or; exact rfl; intro hg))
  exact Wk.id hk
theorem iadd32_ok {b o : Nat} {t : TypeId} {cs : List Value} {x : Int} [hb : HasBlk own b t cs g] (hx : cs[o]? = some (.int .i32 x)) (hr : 0 ≤ x ∧ x ≤ 1000000) (hk : K (.int .i32 (x + 1)) ro (g (.blk b t (cs.set o (.int .i32 (x + 1)))))) :
    CallOk Tryz.prog 39 #[.pointer (some ⟨b, o, none⟩), .int .i32 1] ro own K := by
  refine CallOk.intro (args := [_, _]) (rs := [_]) T_ok Tryz.func39 Tryz.call39 rfl rfl (by kernel_rfl) rfl rfl ?_
  repeat (first | exact endA | refine wkP ?_ | refine opB (fun b => ?_) | refine opA (fun a' c' hc1 hc2 => ?_) | (apply GJ.and; exact rfl; intro hg) | (apply GJ.or; exact rfl; intro hg))
  refine CallOk.aaddAt Tryz.func63 (by kernel_rfl) (by kernel_rfl) (by kernel_rfl) .i32 (by kernel_rfl) (s := x + 1) hx (by simp [IntKind.wrap, IntKind.bits, IntKind.signed]; omega) ?_
  repeat (first | exact endA | refine wkP ?_ | refine opB (fun b => ?_) | refine opA (fun a' c' hc1 hc2 => ?_) | (apply GJ.and; exact rfl; intro hg) | (apply GJ.or; exact rfl; intro hg))
  exact Wk.id hk
theorem iload32_ok {b o : Nat} {x : Int} (hl : Ld ro own b o (.int .i32 x)) (hk : K (.int .i32 x) ro own) : CallOk Tryz.prog 35 #[.pointer (some ⟨b, o, none⟩)] ro own K := by
  refine CallOk.intro (args := [_]) (rs := [_]) T_ok Tryz.func35 Tryz.call35 rfl rfl (by kernel_rfl) rfl rfl ?_
  repeat (first | exact endA | refine wkP ?_ | refine opB (fun b => ?_) | refine opA (fun a' c' hc1 hc2 => ?_) | (apply GJ.and; exact rfl; intro hg) | (apply GJ.or; exact rfl; intro hg))
  refine CallOk.aload Tryz.func59 (by kernel_rfl) (by kernel_rfl) (by kernel_rfl) .i32 (by kernel_rfl) (x := x) (by simpa using hl) ?_
  repeat (first | exact endA | refine wkP ?_ | refine opB (fun b => ?_) | refine opA (fun a' c' hc1 hc2 => ?_) | (apply GJ.and; exact rfl; intro hg) | (apply GJ.or; exact rfl; intro hg))
  exact Wk.id hk
theorem iload64_ok {b o : Nat} {x : Int} (hl : Ld ro own b o (.int .i64 x)) (hk : K (.int .i64 x) ro own) : CallOk Tryz.prog 34 #[.pointer (some ⟨b, o, none⟩)] ro own K := by
  refine CallOk.intro (args := [_]) (rs := [_]) T_ok Tryz.func34 Tryz.call34 rfl rfl (by kernel_rfl) rfl rfl ?_
  repeat (first | exact endA | refine wkP ?_ | refine opB (fun b => ?_) | refine opA (fun a' c' hc1 hc2 => ?_) | (apply GJ.and; exact rfl; intro hg) | (apply GJ.or; exact rfl; intro hg))
  refine CallOk.aload Tryz.func58 (by kernel_rfl) (by kernel_rfl) (by kernel_rfl) .i64 (by kernel_rfl) (x := x) (by simpa using hl) ?_
  repeat (first | exact endA | refine wkP ?_ | refine opB (fun b => ?_) | refine opA (fun a' c' hc1 hc2 => ?_) | (apply GJ.and; exact rfl; intro hg) | (apply GJ.or; exact rfl; intro hg))
  exact Wk.id hk
theorem counts_ok {q : Nat} {z0 z1 z2 z3 z4 z5 z6 z7 d s sm P : Value} {e x y : Int} (hy : 0 ≤ y ∧ y ≤ 1000000) (hk : K (.tuple #[.int .i64 x, .int .i64 y]) ro (.blk q 97 [z0, z1, z2, z3, z4, z5, z6, z7, d, s, sm, P, .int .i64 e, .int .i64 x, .int .i32 y] :: own)) :
    CallOk Tryz.prog 22 #[ptr' q] ro (.blk q 97 [z0, z1, z2, z3, z4, z5, z6, z7, d, s, sm, P, .int .i64 e, .int .i64 x, .int .i32 y] :: own) K := by
  refine CallOk.intro (args := [_]) (rs := [_, _]) T_ok Tryz.func22 Tryz.call22 rfl rfl (by kernel_rfl) rfl rfl ?_
  repeat (first | exact endA | refine wkP ?_ | refine opB (fun b => ?_) | refine opA (fun a' c' hc1 hc2 => ?_) | (apply GJ.and; exact rfl; intro hg) | (apply GJ.or; exact rfl; intro hg))
  refine iload64_ok (x := x) (by exact Ld.hasBlkAt rfl) ?_
  repeat (first | exact endA | refine wkP ?_ | refine opB (fun b => ?_) | refine opA (fun a' c' hc1 hc2 => ?_) | (apply GJ.and; exact rfl; intro hg) | (apply GJ.or; exact rfl; intro hg))
  refine iload32_ok (x := y) (by exact Ld.hasBlkAt rfl) ?_
  repeat (first | exact endA | refine wkP ?_ | refine opB (fun b => ?_) | refine opA (fun a' c' hc1 hc2 => ?_) | (apply GJ.and; exact rfl; intro hg) | (apply GJ.or; exact rfl; intro hg))
  rw [show IntKind.i64.wrap y = y from wrap_i64 (by omega)]
  exact Wk.outS Sup.auto (.refl _) hk
/-- The closure of Auto: the automaton is made. -/
theorem auto1_ok {n : RgD} {a : Option Addr} {c q pl : Nat} {d s sm : Value} {x : Int} (ht : TabOk ro) (hv : RgOk ro n (nodeV n.kind n.set a n.kids.length c n.min n.max))
    (hk : ∀ ro' P, Le ro ro' → OfP ro' n P → K (.tuple #[]) ro' (.blk q 97 [.int .i64 n.kind, wV n.set.a, wV n.set.b, wV n.set.c, wV n.set.d, .slice a n.kids.length c, .int .i64 n.min, .int .i64 n.max, d, s, sm, P, .int .i64 (lstE n : Int), .int .i64 x, .int .i32 1] :: .blk pl 56 [ptr' q] :: own)) :
    CallOk Tryz.prog 38 #[ptr' pl] ro (.blk q 97 [.int .i64 n.kind, wV n.set.a, wV n.set.b, wV n.set.c, wV n.set.d, .slice a n.kids.length c, .int .i64 n.min, .int .i64 n.max, d, s, sm, .pointer none, .int .i64 0, .int .i64 x, .int .i32 0] :: .blk pl 56 [ptr' q] :: own) K := by
  refine CallOk.intro (args := [_]) (rs := []) T_ok Tryz.func38 Tryz.call38 rfl rfl (by kernel_rfl) rfl rfl ?_
  repeat (first | exact endA | refine wkN ?_ | refine Bs.all ?_ | (show QOk _ _ _ _ _ _ _; refine QOk.build rfl rfl Nf.auto ?_) | refine opB (fun b => ?_) | refine opA (fun a' c' hc1 hc2 => ?_) | (show GJ _ _ _ _ _ _ _; first | refine GJ.t (by decide) ?_ | refine GJ.f (by decide) ?_ | refine GJ.ft (by decide) ?_ | refine GJ.ff (by decide) ?_) | (show Br _ _ _; first | refine Br.t (by decide) ?_ | refine Br.f (by decide) ?_) | (apply GJ.and; exact rfl; intro hg) | (apply GJ.or; exact rfl; intro hg))
  refine CodeOk.drawn [.look 0, .look 1, .look 2, .look 3, .look 4, .keep 5, .keep 6, .look 7, .look 8, .look 9, .look 10, .look 11, .keep 12, .look 13, .look 14, .keep 15] rfl (by kernel_rfl) (by rfl) (by kernel_rfl) ?_
  refine Stop.mk ?_
  refine Bs.mk ⟨[.blk pl 56 [ptr' q]], Sup.auto, ?_⟩
  repeat (first | exact endA | refine wkU ?_ | (show QOk _ _ _ _ _ _ _; refine QOk.build rfl rfl Nf.auto ?_) | (show GJ _ _ _ _ _ _ _; first | with_reducible refine GJ.neF ?_ | with_reducible refine GJ.neT ?_) | (show Br _ _ _; with_reducible refine Br.ne ?_) | refine opB (fun b => ?_) | refine opA (fun a' c' hc1 hc2 => ?_) | (apply GJ.and; exact rfl; intro hg) | (apply GJ.or; exact rfl; intro hg))
  refine dof_ok ht hv (fun ro' P hl hp => ?_)
  repeat (first | exact endA | refine wkU ?_ | (show QOk _ _ _ _ _ _ _; refine QOk.build rfl rfl Nf.auto ?_) | (show GJ _ _ _ _ _ _ _; first | with_reducible refine GJ.neF ?_ | with_reducible refine GJ.neT ?_) | (show Br _ _ _; with_reducible refine Br.ne ?_) | refine opB (fun b => ?_) | refine opA (fun a' c' hc1 hc2 => ?_) | (apply GJ.and; exact rfl; intro hg) | (apply GJ.or; exact rfl; intro hg))
  obtain ⟨o, rfl⟩ : ∃ o, P = .pointer o := by
    rcases hp with ⟨h1, rfl⟩ | ⟨h1, p, rfl, h3⟩ <;> exact ⟨_, rfl⟩
  repeat (first | exact endA | refine wkU ?_ | (show QOk _ _ _ _ _ _ _; refine QOk.build rfl rfl Nf.auto ?_) | (show GJ _ _ _ _ _ _ _; first | with_reducible refine GJ.neF ?_ | with_reducible refine GJ.neT ?_) | (show Br _ _ _; with_reducible refine Br.ne ?_) | refine opB (fun b => ?_) | refine opA (fun a' c' hc1 hc2 => ?_) | (apply GJ.and; exact rfl; intro hg) | (apply GJ.or; exact rfl; intro hg))
  refine iadd32_ok (x := 0) rfl (by omega) ?_
  repeat (first | exact endA | refine wkP ?_ | refine opB (fun b => ?_) | refine opA (fun a' c' hc1 hc2 => ?_) | (apply GJ.and; exact rfl; intro hg) | (apply GJ.or; exact rfl; intro hg))
  exact Wk.outS Sup.auto (.refl _) (hk ro' _ hl hp)
/-- A Lazy's cells: not made yet. -/
def lz0 (n : RgD) (a : Option Addr) (c : Nat) (x : Int) : List Value := [.int .i64 n.kind, wV n.set.a, wV n.set.b, wV n.set.c, wV n.set.d, .slice a n.kids.length c, .int .i64 n.min, .int .i64 n.max, .int .u32 0, .int .i32 0, .int .u32 0, .pointer none, .int .i64 0, .int .i64 x, .int .i32 0]
/-- A Lazy's cells: made. -/
def lz1 (n : RgD) (a : Option Addr) (c : Nat) (x : Int) (P : Value) : List Value := [.int .i64 n.kind, wV n.set.a, wV n.set.b, wV n.set.c, wV n.set.d, .slice a n.kids.length c, .int .i64 n.min, .int .i64 n.max, .int .u32 1, .int .i32 0, .int .u32 0, P, .int .i64 (lstE n : Int), .int .i64 x, .int .i32 1]
theorem lauto0_ok {n : RgD} {a : Option Addr} {c q : Nat} {x : Int} (ht : TabOk ro) (hv : RgOk ro n (nodeV n.kind n.set a n.kids.length c n.min n.max)) (hx : 0 ≤ x ∧ x ≤ 1000000)
    (hk : ∀ ro' P, Le ro ro' → OfP ro' n P → K (.tuple #[P, .int .i64 (lstE n : Int)]) ro' (.blk q 97 (lz1 n a c (x + 1) P) :: own)) :
    CallOk Tryz.prog 23 #[ptr' q] ro (.blk q 97 (lz0 n a c x) :: own) K := by
  dsimp only [lz0, lz1] at hk ⊢
  refine CallOk.intro (args := [_]) (rs := [_, _]) T_ok Tryz.func23 Tryz.call23 rfl rfl (by kernel_rfl) rfl rfl ?_
  repeat (first | exact endA | refine wkP ?_ | refine opB (fun b => ?_) | refine opA (fun a' c' hc1 hc2 => ?_) | (apply GJ.and; exact rfl; intro hg) | (apply GJ.or; exact rfl; intro hg))
  refine iadd64_ok (x := x) rfl hx ?_
  dsimp only [List.set]
  repeat (first | exact endA | refine wkP ?_ | refine opB (fun b => ?_) | refine opA (fun a' c' hc1 hc2 => ?_) | (apply GJ.and; exact rfl; intro hg) | (apply GJ.or; exact rfl; intro hg))
  refine CallOk.perm (.swap _ _ _) ?_
  refine do_first (rest := [.pointer none, .int .i64 0, .int .i64 (x + 1), .int .i32 0]) (Ψ := fun ro' rest' r' => ∃ P, Le ro ro' ∧ OfP ro' n P ∧ rest' = [P, .int .i64 (lstE n : Int), .int .i64 (x + 1), .int .i32 1] ∧ r' = .blk b 56 [ptr' q] :: own) (auto1_ok ht hv (fun ro' P hl hp => ⟨rfl, _, _, rfl, P, hl, hp, rfl, rfl⟩)) ?_
  rintro ro' rest' r' hl ⟨P, hl2, hp, rfl, rfl⟩
  obtain ⟨o, rfl⟩ : ∃ o, P = .pointer o := by
    rcases hp with ⟨h1, rfl⟩ | ⟨h1, p, rfl, h3⟩ <;> exact ⟨_, rfl⟩
  repeat (first | exact endA | refine wkP ?_ | refine opB (fun b => ?_) | refine opA (fun a' c' hc1 hc2 => ?_) | (apply GJ.and; exact rfl; intro hg) | (apply GJ.or; exact rfl; intro hg))
  exact Wk.outS Sup.auto (.refl _) (hk ro' _ hl hp)
end
end Go.Proofs.YtinbmhbfcoiefaaGreatDoor
end
section
/- Contracts of the document's answer: Has, Ends, repeat, Match (guipureref07). -/
namespace Go.Proofs.YtinbmhbfcoiefaaGreatDoor
open Go Go.E
set_option linter.unusedVariables false
set_option linter.unusedSimpArgs false
set_option maxRecDepth 10000
section
variable {ro : Ro} {own r : Chs} {K : Value → Ro → Chs → Prop} {g : Chunk → Chs}
theorem rhas_ok {s : SetD} {c : Nat} (hs : SetIn s) (hc : c < 256) (hk : K (.bool (s.has c)) ro own) : CallOk Tryz.prog 55 #[.agg (setV s).toArray, .int .u8 (c : Int)] ro own K := by
  have hw := hs (c / 64)
  have hd : s.w (c / 64) / 2 ^ (c % 64) < 18446744073709551616 := Nat.lt_of_le_of_lt (Nat.div_le_self _ _) hw
  have e : (c : Int) / 64 = ((c / 64 : Nat) : Int) := by omega
  refine CallOk.intro (args := [_, _]) (rs := [_]) T_ok Tryz.func55 Tryz.call55 rfl rfl (by kernel_rfl) rfl rfl ?_
  repeat (first | exact endA | refine wkP ?_ | refine opB (fun b => ?_) | refine opA (fun a' c' hc1 hc2 => ?_) | (apply GJ.and; exact rfl; intro hg) | (apply GJ.or; exact rfl; intro hg))
  rw [e]
  refine OpOk.load rfl rfl (Ld.setAt s rfl (k := c / 64) (by omega) (by omega)) ?_
  repeat (first | exact endA | refine wkP ?_ | refine opB (fun b => ?_) | refine opA (fun a' c' hc1 hc2 => ?_) | (apply GJ.and; exact rfl; intro hg) | (apply GJ.or; exact rfl; intro hg))
  rw [show (c : Int) % 64 = ((c % 64 : Nat) : Int) by omega, shrN]
  generalize hq : s.w (c / 64) / 2 ^ (c % 64) = q at hd ⊢
  refine ⟨by omega, ?_⟩
  repeat (first | exact endA | refine wkP ?_ | refine opB (fun b => ?_) | refine opA (fun a' c' hc1 hc2 => ?_) | (apply GJ.and; exact rfl; intro hg) | (apply GJ.or; exact rfl; intro hg))
  refine Wk.outV Sup.auto hk (congrArg Value.bool ?_)
  rw [SetD.has, ← testBit_div, hq, Bool.eq_iff_iff, decide_eq_true_iff, decide_eq_true_iff]
  omega
end
theorem bangB {l : List Bool} {i : Nat} (h : i < l.length) : l[((i : Nat) : Int).toNat]! = getB l i := getB_get h
theorem range_map_get {n i : Nat} (p : Nat → Bool) (h : i < n) : ((List.range n).map p)[i]? = some (p i) := by
  rw [List.getElem?_map, List.getElem?_range h]; rfl
theorem fillB_set {L : List Bool} {n i : Nat} {v z : Bool} (hL : L.length = n) (hv : L[i]? = some v) : (L.take i ++ List.replicate (n - i) z).set i v = L.take (i + 1) ++ List.replicate (n - (i + 1)) z := by
  have hi := (List.getElem?_eq_some_iff.1 hv).1
  have hl : (L.take i).length = i := by simp; omega
  rw [List.set_append_right _ _ (by omega), hl, Nat.sub_self, show n - i = (n - (i + 1)) + 1 by omega, List.replicate_succ, List.set_cons_zero, List.take_add_one, hv]
  simp
theorem mixB_set {L O : List Bool} {n i : Nat} {v : Bool} (hL : L.length = n) (hO : O.length = n) (hv : L[i]? = some v) : (L.take i ++ O.drop i).set i v = L.take (i + 1) ++ O.drop (i + 1) := by
  have hi := (List.getElem?_eq_some_iff.1 hv).1
  have hl : (L.take i).length = i := by simp; omega
  rw [List.set_append_right _ _ (by omega), hl, Nat.sub_self, List.drop_eq_getElem_cons (by omega), List.set_cons_zero, List.take_add_one, hv]
  simp
theorem mixB_get {L O : List Bool} {n i : Nat} (hL : L.length = n) (hO : O.length = n) (hi : i < n) : getB (L.take i ++ O.drop i) i = getB O i := by
  have hl : (L.take i).length = i := by simp; omega
  unfold getB
  rw [List.getElem?_append_right (by omega), hl, Nat.sub_self, List.getElem?_drop, Nat.add_zero]
theorem mixB_len {L O : List Bool} {n i : Nat} (hL : L.length = n) (hO : O.length = n) (hi : i ≤ n) : (L.take i ++ O.drop i).length = n := by simp; omega
theorem fill_lenB {L : List Bool} {n i : Nat} {z : Bool} (hL : L.length = n) (hi : i ≤ n) : (L.take i ++ List.replicate (n - i) z).length = n := by simp; omega
theorem fillB_same {L : List Bool} {n i : Nat} {z : Bool} (hL : L.length = n) (hv : L[i]? = some z) : L.take i ++ List.replicate (n - i) z = L.take (i + 1) ++ List.replicate (n - (i + 1)) z := by
  have hi := (List.getElem?_eq_some_iff.1 hv).1
  rw [show n - i = (n - (i + 1)) + 1 by omega, List.replicate_succ, List.take_add_one, hv]
  simp
theorem bools_zero (n : Nat) : List.replicate n (Value.bool false) = boolsV (List.replicate n false) := by simp [boolsV]
structure EndsC (n : RgD) : Prop where
  run : ∀ {ro : Ro} {own : Chs} {K : Value → Ro → Chs → Prop} {v : List Value} {t : List UInt8} {ab af : Option Addr} {cb cf : Nat} {m : List Bool}, RgOk ro n v → wrongD n = 0 → Bys ro ab t.length cb t → t.length ≤ 100000 → Rs ro af (t.length + 1) cf 1 (boolsV m) →
    (∀ ro' a' c', Le ro ro' → Rs ro' a' (t.length + 1) c' 1 (boolsV (endsR t n m)) → K (.slice a' (t.length + 1) c') ro' own) →
    CallOk Tryz.prog 27 #[.agg v.toArray, .slice ab t.length cb, .slice af (t.length + 1) cf] ro own K
set_option maxHeartbeats 8000000 in
theorem rrep_ok {n : RgD} (ih : EndsC n) {ro : Ro} {own : Chs} {K : Value → Ro → Chs → Prop} {v : List Value} {z : SetD} {lo hi : Int} {t : List UInt8} {ab af : Option Addr} {cb cf : Nat} {m : List Bool} (hv : RgOk ro (.mk 5 z [n] lo hi) v) (hw : wrongD n = 0) (hlh : 0 ≤ lo ∧ lo ≤ 256 ∧ hi ≤ 256 ∧ (hi < 0 ∨ lo ≤ hi)) (hb : Bys ro ab t.length cb t) (ht : t.length ≤ 100000) (hm : Rs ro af (t.length + 1) cf 1 (boolsV m))
    (hk : ∀ ro' a' c', Le ro ro' → Rs ro' a' (t.length + 1) c' 1 (boolsV (moreR (endsR t n) t.length (mostR lo hi t.length) (noneR t.length) (itR (endsR t n) lo.toNat m))) → K (.slice a' (t.length + 1) c') ro' own) :
    CallOk Tryz.prog 56 #[.agg v.toArray, .slice ab t.length cb, .slice af (t.length + 1) cf] ro own K := by
  rw [RgOk] at hv
  obtain ⟨ad, cp, cs, rfl, hs, hrs, hks⟩ := hv
  have hle := hrs.le
  have hmx := hrs.max
  have hbm := hb.max
  have hbl := hb.le
  unfold maxLen at hmx hbm
  have hvv := hks.get (i := 0) rfl
  obtain ⟨ak, ck, hvk⟩ := hvv.cells
  rw [hvk] at hvv
  obtain ⟨A, rfl⟩ : ∃ A : Nat, lo = (A : Int) := ⟨lo.toNat, by omega⟩
  rw [Int.toNat_natCast] at hk
  generalize hF : endsR t n = F at hk
  refine CallOk.intro (args := [_, _, _]) (rs := [_]) T_ok Tryz.func56 Tryz.call56 rfl rfl (by kernel_rfl) rfl rfl ?_
  repeat (first | exact endA | refine wkP ?_ | refine opB (fun b => ?_) | refine opA (fun a' c' hc1 hc2 => ?_) | (apply GJ.and; exact rfl; intro hg) | (apply GJ.or; exact rfl; intro hg))
  refine LoopOk.auto (ι := Nat × List Bool × Option Addr × Nat) Keep.auto (fun (i, mi, am, cm) => [(8, .int .i64 (i : Int)), (7, .slice am (t.length + 1) cm)]) (fun (i, mi, am, cm) => .blk b 26 (nodeV 5 z ad 1 cp (A : Int) hi) :: own) (fun (i, mi, am, cm) ro2 => i ≤ A ∧ Rs ro2 am (t.length + 1) cm 1 (boolsV mi) ∧ itR F (A - i) mi = itR F A m) (fun (i, mi, am, cm) => A - i) (0, m, af, cf) ?_ Sub.auto Sup.auto ?_
  · exact ⟨Nat.zero_le _, hm, rfl⟩
  rintro ⟨i, mi, am, cm⟩ ro2 hl2 ⟨i1, i2, i3⟩
  dsimp only [List.cons_append, List.nil_append] at i1 i2 i3 ⊢
  by_cases hi0 : i < A
  · rw [show A - i = (A - (i + 1)) + 1 by omega, itR] at i3
    repeat (first | exact endA | refine wkP ?_ | refine opB (fun b => ?_) | refine opA (fun a' c' hc1 hc2 => ?_) | (apply GJ.and; exact rfl; intro hg) | (apply GJ.or; exact rfl; intro hg))
    refine OpOk.loadRow rfl rfl (LdN.at (k := 0) hrs hvk) rfl ?_
    repeat (first | exact endA | refine wkP ?_ | refine opB (fun b => ?_) | refine opA (fun a' c' hc1 hc2 => ?_) | (apply GJ.and; exact rfl; intro hg) | (apply GJ.or; exact rfl; intro hg))
    refine ih.run (hvv.le hl2) hw (Rs.up hb) ht i2 (fun ro3 a3 c3 hl3 hr3 => ?_)
    rw [hF] at hr3
    repeat (first | exact endA | refine wkP ?_ | refine opB (fun b => ?_) | refine opA (fun a' c' hc1 hc2 => ?_) | (apply GJ.and; exact rfl; intro hg) | (apply GJ.or; exact rfl; intro hg))
    repeat (first | exact endA | refine wkP ?_ | refine opB (fun b => ?_) | refine opA (fun a' c' hc1 hc2 => ?_) | (apply GJ.and; exact rfl; intro hg) | (apply GJ.or; exact rfl; intro hg))
    refine Wk.id ⟨(i + 1, F mi, a3, c3), ?_, ?_, Sub.auto, Sup.auto⟩
    all_goals try dsimp only
    · exact ⟨by omega, hr3, i3⟩
    · omega
  · obtain rfl : i = A := by omega
    rw [Nat.sub_self, itR] at i3
    rw [← i3] at hk
    by_cases hc : 0 ≤ hi ∧ hi - (i : Int) < t.length + 1
    · obtain ⟨N, hN⟩ : ∃ N : Nat, (N : Int) = hi - (i : Int) := ⟨(hi - (i : Int)).toNat, by omega⟩
      have hmN : mostR (i : Int) hi t.length = N := by unfold mostR; rw [if_pos hc]; omega
      rw [hmN] at hk
      repeat (first | exact endA | refine wkP ?_ | refine opB (fun b => ?_) | refine opA (fun a' c' hc1 hc2 => ?_) | (apply GJ.and; exact rfl; intro hg) | (apply GJ.or; exact rfl; intro hg))
      rw [show ((t.length : Int) + 1).toNat = t.length + 1 by omega, bools_zero]
      obtain ⟨bO, hbO⟩ : ∃ z : Nat, z = b := ⟨_, rfl⟩
      subst hbO
      obtain ⟨Z, hZ⟩ : ∃ Z, Z = moreR F t.length N (noneR t.length) mi := ⟨_, rfl⟩
      rw [← hZ] at hk
      refine LoopOk.auto (ι := Nat × List Bool × List Bool × Option Addr × Nat) Keep.auto (fun (j, o, e, am, cm) => [(11, .int .i64 (j : Int)), (7, .slice am (t.length + 1) cm)]) (fun (j, o, e, am, cm) => .sl (some ⟨bO, 0, none⟩) (t.length + 1) (t.length + 1) 4 1 (boolsV o) :: .blk b 26 (nodeV 5 z ad 1 cp (i : Int) hi) :: own) (fun (j, o, e, am, cm) ro3 => o.length = t.length + 1 ∧ Rs ro3 am (t.length + 1) cm 1 (boolsV e) ∧ ((j ≤ N ∧ moreR F t.length (N - j) o e = Z) ∨ (j = N + 1 ∧ o = Z))) (fun (j, o, e, am, cm) => N + 1 - j) (0, noneR t.length, mi, am, cm) ?_ Sub.auto Sup.auto ?_
      · exact ⟨by simp [noneR], i2, .inl ⟨Nat.zero_le _, hZ.symm⟩⟩
      clear i2 am cm
      rintro ⟨j, o, e, am, cm⟩ ro3 hl3 ⟨i2, j2, j3⟩
      dsimp only [List.cons_append, List.nil_append] at i2 j2 j3 ⊢
      have hel : e.length = t.length + 1 := by have := j2.n1; rwa [boolsV_len] at this
      by_cases hj : j ≤ N
      · have j3 : moreR F t.length (N - j) o e = Z := by rcases j3 with ⟨_, h⟩ | ⟨h, _⟩ <;> first | exact h | omega
        obtain ⟨Q, hQ⟩ : ∃ Q, Q = orR o e t.length := ⟨_, rfl⟩
        have hQl : Q.length = t.length + 1 := by rw [hQ]; exact orR_len _ _ _
        repeat (first | exact endA | refine wkP ?_ | refine opB (fun b => ?_) | refine opA (fun a' c' hc1 hc2 => ?_) | (apply GJ.and; exact rfl; intro hg) | (apply GJ.or; exact rfl; intro hg))
        refine LoopOk.at (ι := Nat) Keep.auto (fun k => [(12, .int .i64 (k : Int))]) (fun k => .sl (some ⟨bO, 0, none⟩) (t.length + 1) (t.length + 1) 4 1 (boolsV (Q.take k ++ o.drop k)) :: .blk b 26 (nodeV 5 z ad 1 cp (i : Int) hi) :: own) (fun k => k ≤ t.length + 1) (fun k => t.length + 1 - k) 0 ?_ Sub.auto Sup.auto ?_
        · exact Nat.zero_le _
        rintro k k1
        dsimp only [List.cons_append, List.nil_append] at k1 ⊢
        have hml2 := mixB_len hQl i2 k1
        have hbl2 := (boolsV_len (Q.take k ++ o.drop k)).trans hml2
        by_cases hkl : k ≤ t.length
        · have hQk : Q[k]? = some (getB o k || getB e k) := by rw [hQ]; exact range_map_get _ (by omega)
          have hms := mixB_set hQl i2 hQk
          have hgo := (bangB (l := Q.take k ++ o.drop k) (i := k) (by omega)).trans (mixB_get hQl i2 (by omega))
          have hge := bangB (l := e) (i := k) (by omega)
          generalize getB o k = p at hms hgo
          generalize getB e k = p2 at hms hge
          cases p with
          | true =>
            repeat (first | exact endA | refine wkP ?_ | refine opB (fun b => ?_) | refine opA (fun a' c' hc1 hc2 => ?_) | (apply GJ.and; exact rfl; intro hg) | (apply GJ.or; exact rfl; intro hg))
            rw [hgo]
            repeat (first | exact endA | refine wkP ?_ | refine opB (fun b => ?_) | refine opA (fun a' c' hc1 hc2 => ?_) | (apply GJ.and; exact rfl; intro hg) | (apply GJ.or; exact rfl; intro hg))
            refine OpOk.storeSlAt' (k := k) rfl rfl rfl rfl (by rw [Int.toNat_natCast]) (by omega) ?_
            have hms2 : (Q.take k ++ o.drop k).set k true = Q.take (k + 1) ++ o.drop (k + 1) := hms
            rw [boolsV_set, hms2]
            repeat (first | exact endA | refine wkP ?_ | refine opB (fun b => ?_) | refine opA (fun a' c' hc1 hc2 => ?_) | (apply GJ.and; exact rfl; intro hg) | (apply GJ.or; exact rfl; intro hg))
            repeat (first | exact endA | refine wkP ?_ | refine opB (fun b => ?_) | refine opA (fun a' c' hc1 hc2 => ?_) | (apply GJ.and; exact rfl; intro hg) | (apply GJ.or; exact rfl; intro hg))
            refine Wk.id ⟨k + 1, ⟨rfl, ?_⟩, ?_, Sub.auto, Sup.auto⟩
            all_goals try dsimp only
            · omega
            · omega
          | false =>
            repeat (first | exact endA | refine wkP ?_ | refine opB (fun b => ?_) | refine opA (fun a' c' hc1 hc2 => ?_) | (apply GJ.and; exact rfl; intro hg) | (apply GJ.or; exact rfl; intro hg))
            rw [hgo]
            repeat (first | exact endA | refine wkP ?_ | refine opB (fun b => ?_) | refine opA (fun a' c' hc1 hc2 => ?_) | (apply GJ.and; exact rfl; intro hg) | (apply GJ.or; exact rfl; intro hg))
            rw [hge]
            repeat (first | exact endA | refine wkP ?_ | refine opB (fun b => ?_) | refine opA (fun a' c' hc1 hc2 => ?_) | (apply GJ.and; exact rfl; intro hg) | (apply GJ.or; exact rfl; intro hg))
            refine OpOk.storeSlAt' (k := k) rfl rfl rfl rfl (by rw [Int.toNat_natCast]) (by omega) ?_
            rw [boolsV_set, hms]
            repeat (first | exact endA | refine wkP ?_ | refine opB (fun b => ?_) | refine opA (fun a' c' hc1 hc2 => ?_) | (apply GJ.and; exact rfl; intro hg) | (apply GJ.or; exact rfl; intro hg))
            repeat (first | exact endA | refine wkP ?_ | refine opB (fun b => ?_) | refine opA (fun a' c' hc1 hc2 => ?_) | (apply GJ.and; exact rfl; intro hg) | (apply GJ.or; exact rfl; intro hg))
            refine Wk.id ⟨k + 1, ⟨rfl, ?_⟩, ?_, Sub.auto, Sup.auto⟩
            all_goals try dsimp only
            · omega
            · omega
        · obtain rfl : k = t.length + 1 := by omega
          have e2 : Q.take (t.length + 1) ++ o.drop (t.length + 1) = Q := by
            rw [List.take_of_length_le (by omega), List.drop_eq_nil_of_le (by omega), List.append_nil]
          rw [e2]
          by_cases hjN : j < N
          · rw [show N - j = (N - (j + 1)) + 1 by omega, moreR, ← hQ] at j3
            repeat (first | exact endA | refine wkP ?_ | refine opB (fun b => ?_) | refine opA (fun a' c' hc1 hc2 => ?_) | (apply GJ.and; exact rfl; intro hg) | (apply GJ.or; exact rfl; intro hg))
            refine OpOk.loadRow rfl rfl (LdN.at (k := 0) hrs hvk) rfl ?_
            repeat (first | exact endA | refine wkP ?_ | refine opB (fun b => ?_) | refine opA (fun a' c' hc1 hc2 => ?_) | (apply GJ.and; exact rfl; intro hg) | (apply GJ.or; exact rfl; intro hg))
            refine ih.run ((hvv.le hl2).le hl3) hw (Rs.up (Rs.up (ro' := ro2) hb)) ht j2 (fun ro4 a4 c4 hl4 hr4 => ?_)
            rw [hF] at hr4
            repeat (first | exact endA | refine wkP ?_ | refine opB (fun b => ?_) | refine opA (fun a' c' hc1 hc2 => ?_) | (apply GJ.and; exact rfl; intro hg) | (apply GJ.or; exact rfl; intro hg))
            repeat (first | exact endA | refine wkP ?_ | refine opB (fun b => ?_) | refine opA (fun a' c' hc1 hc2 => ?_) | (apply GJ.and; exact rfl; intro hg) | (apply GJ.or; exact rfl; intro hg))
            refine Wk.id ⟨(j + 1, Q, F e, a4, c4), ?_, ?_, Sub.auto, Sup.auto⟩
            all_goals try dsimp only
            · exact ⟨hQl, hr4, .inl ⟨by omega, j3⟩⟩
            · omega
          · obtain rfl : j = N := by omega
            rw [Nat.sub_self, moreR, ← hQ] at j3
            repeat (first | exact endA | refine wkP ?_ | refine opB (fun b => ?_) | refine opA (fun a' c' hc1 hc2 => ?_) | (apply GJ.and; exact rfl; intro hg) | (apply GJ.or; exact rfl; intro hg))
            repeat (first | exact endA | refine wkP ?_ | refine opB (fun b => ?_) | refine opA (fun a' c' hc1 hc2 => ?_) | (apply GJ.and; exact rfl; intro hg) | (apply GJ.or; exact rfl; intro hg))
            refine Wk.id ⟨(j + 1, Q, e, am, cm), ?_, ?_, Sub.auto, Sup.auto⟩
            all_goals try dsimp only
            · exact ⟨hQl, j2, .inr ⟨rfl, j3⟩⟩
            · omega
      · have j3 : o = Z := by rcases j3 with ⟨h, _⟩ | ⟨_, h⟩ <;> first | exact h | omega
        subst j3
        repeat (first | exact endA | refine wkP ?_ | refine opB (fun b => ?_) | refine opA (fun a' c' hc1 hc2 => ?_) | (apply GJ.and; exact rfl; intro hg) | (apply GJ.or; exact rfl; intro hg))
        refine Wk.freeze (c := .sl (some ⟨bO, 0, none⟩) _ _ _ _ _) Take.auto (fun ro4 hl4 hc4 => ?_)
        exact Wk.outS Sup.auto (.refl _) (hk ro4 _ _ ((hl2.trans hl3).trans hl4) (Rs.last hc4))
    · obtain ⟨N, hN⟩ : ∃ N : Nat, N = t.length + 1 := ⟨_, rfl⟩
      have hmN : mostR (i : Int) hi t.length = N := by unfold mostR; rw [if_neg hc, hN]
      rw [hmN] at hk
      repeat (first | exact endA | refine wkP ?_ | refine opB (fun b => ?_) | refine opA (fun a' c' hc1 hc2 => ?_) | (apply GJ.and; exact rfl; intro hg) | (apply GJ.or; exact rfl; intro hg))
      rw [show ((t.length : Int) + 1).toNat = t.length + 1 by omega, bools_zero]
      obtain ⟨bO, hbO⟩ : ∃ z : Nat, z = b := ⟨_, rfl⟩
      subst hbO
      obtain ⟨Z, hZ⟩ : ∃ Z, Z = moreR F t.length N (noneR t.length) mi := ⟨_, rfl⟩
      rw [← hZ] at hk
      refine LoopOk.auto (ι := Nat × List Bool × List Bool × Option Addr × Nat) Keep.auto (fun (j, o, e, am, cm) => [(11, .int .i64 (j : Int)), (7, .slice am (t.length + 1) cm)]) (fun (j, o, e, am, cm) => .sl (some ⟨bO, 0, none⟩) (t.length + 1) (t.length + 1) 4 1 (boolsV o) :: .blk b 26 (nodeV 5 z ad 1 cp (i : Int) hi) :: own) (fun (j, o, e, am, cm) ro3 => o.length = t.length + 1 ∧ Rs ro3 am (t.length + 1) cm 1 (boolsV e) ∧ ((j ≤ N ∧ moreR F t.length (N - j) o e = Z) ∨ (j = N + 1 ∧ o = Z))) (fun (j, o, e, am, cm) => N + 1 - j) (0, noneR t.length, mi, am, cm) ?_ Sub.auto Sup.auto ?_
      · exact ⟨by simp [noneR], i2, .inl ⟨Nat.zero_le _, hZ.symm⟩⟩
      clear i2 am cm
      rintro ⟨j, o, e, am, cm⟩ ro3 hl3 ⟨i2, j2, j3⟩
      dsimp only [List.cons_append, List.nil_append] at i2 j2 j3 ⊢
      have hel : e.length = t.length + 1 := by have := j2.n1; rwa [boolsV_len] at this
      by_cases hj : j ≤ N
      · have j3 : moreR F t.length (N - j) o e = Z := by rcases j3 with ⟨_, h⟩ | ⟨h, _⟩ <;> first | exact h | omega
        obtain ⟨Q, hQ⟩ : ∃ Q, Q = orR o e t.length := ⟨_, rfl⟩
        have hQl : Q.length = t.length + 1 := by rw [hQ]; exact orR_len _ _ _
        repeat (first | exact endA | refine wkP ?_ | refine opB (fun b => ?_) | refine opA (fun a' c' hc1 hc2 => ?_) | (apply GJ.and; exact rfl; intro hg) | (apply GJ.or; exact rfl; intro hg))
        refine LoopOk.at (ι := Nat) Keep.auto (fun k => [(12, .int .i64 (k : Int))]) (fun k => .sl (some ⟨bO, 0, none⟩) (t.length + 1) (t.length + 1) 4 1 (boolsV (Q.take k ++ o.drop k)) :: .blk b 26 (nodeV 5 z ad 1 cp (i : Int) hi) :: own) (fun k => k ≤ t.length + 1) (fun k => t.length + 1 - k) 0 ?_ Sub.auto Sup.auto ?_
        · exact Nat.zero_le _
        rintro k k1
        dsimp only [List.cons_append, List.nil_append] at k1 ⊢
        have hml2 := mixB_len hQl i2 k1
        have hbl2 := (boolsV_len (Q.take k ++ o.drop k)).trans hml2
        by_cases hkl : k ≤ t.length
        · have hQk : Q[k]? = some (getB o k || getB e k) := by rw [hQ]; exact range_map_get _ (by omega)
          have hms := mixB_set hQl i2 hQk
          have hgo := (bangB (l := Q.take k ++ o.drop k) (i := k) (by omega)).trans (mixB_get hQl i2 (by omega))
          have hge := bangB (l := e) (i := k) (by omega)
          generalize getB o k = p at hms hgo
          generalize getB e k = p2 at hms hge
          cases p with
          | true =>
            repeat (first | exact endA | refine wkP ?_ | refine opB (fun b => ?_) | refine opA (fun a' c' hc1 hc2 => ?_) | (apply GJ.and; exact rfl; intro hg) | (apply GJ.or; exact rfl; intro hg))
            rw [hgo]
            repeat (first | exact endA | refine wkP ?_ | refine opB (fun b => ?_) | refine opA (fun a' c' hc1 hc2 => ?_) | (apply GJ.and; exact rfl; intro hg) | (apply GJ.or; exact rfl; intro hg))
            refine OpOk.storeSlAt' (k := k) rfl rfl rfl rfl (by rw [Int.toNat_natCast]) (by omega) ?_
            have hms2 : (Q.take k ++ o.drop k).set k true = Q.take (k + 1) ++ o.drop (k + 1) := hms
            rw [boolsV_set, hms2]
            repeat (first | exact endA | refine wkP ?_ | refine opB (fun b => ?_) | refine opA (fun a' c' hc1 hc2 => ?_) | (apply GJ.and; exact rfl; intro hg) | (apply GJ.or; exact rfl; intro hg))
            repeat (first | exact endA | refine wkP ?_ | refine opB (fun b => ?_) | refine opA (fun a' c' hc1 hc2 => ?_) | (apply GJ.and; exact rfl; intro hg) | (apply GJ.or; exact rfl; intro hg))
            refine Wk.id ⟨k + 1, ⟨rfl, ?_⟩, ?_, Sub.auto, Sup.auto⟩
            all_goals try dsimp only
            · omega
            · omega
          | false =>
            repeat (first | exact endA | refine wkP ?_ | refine opB (fun b => ?_) | refine opA (fun a' c' hc1 hc2 => ?_) | (apply GJ.and; exact rfl; intro hg) | (apply GJ.or; exact rfl; intro hg))
            rw [hgo]
            repeat (first | exact endA | refine wkP ?_ | refine opB (fun b => ?_) | refine opA (fun a' c' hc1 hc2 => ?_) | (apply GJ.and; exact rfl; intro hg) | (apply GJ.or; exact rfl; intro hg))
            rw [hge]
            repeat (first | exact endA | refine wkP ?_ | refine opB (fun b => ?_) | refine opA (fun a' c' hc1 hc2 => ?_) | (apply GJ.and; exact rfl; intro hg) | (apply GJ.or; exact rfl; intro hg))
            refine OpOk.storeSlAt' (k := k) rfl rfl rfl rfl (by rw [Int.toNat_natCast]) (by omega) ?_
            rw [boolsV_set, hms]
            repeat (first | exact endA | refine wkP ?_ | refine opB (fun b => ?_) | refine opA (fun a' c' hc1 hc2 => ?_) | (apply GJ.and; exact rfl; intro hg) | (apply GJ.or; exact rfl; intro hg))
            repeat (first | exact endA | refine wkP ?_ | refine opB (fun b => ?_) | refine opA (fun a' c' hc1 hc2 => ?_) | (apply GJ.and; exact rfl; intro hg) | (apply GJ.or; exact rfl; intro hg))
            refine Wk.id ⟨k + 1, ⟨rfl, ?_⟩, ?_, Sub.auto, Sup.auto⟩
            all_goals try dsimp only
            · omega
            · omega
        · obtain rfl : k = t.length + 1 := by omega
          have e2 : Q.take (t.length + 1) ++ o.drop (t.length + 1) = Q := by
            rw [List.take_of_length_le (by omega), List.drop_eq_nil_of_le (by omega), List.append_nil]
          rw [e2]
          by_cases hjN : j < N
          · rw [show N - j = (N - (j + 1)) + 1 by omega, moreR, ← hQ] at j3
            repeat (first | exact endA | refine wkP ?_ | refine opB (fun b => ?_) | refine opA (fun a' c' hc1 hc2 => ?_) | (apply GJ.and; exact rfl; intro hg) | (apply GJ.or; exact rfl; intro hg))
            refine OpOk.loadRow rfl rfl (LdN.at (k := 0) hrs hvk) rfl ?_
            repeat (first | exact endA | refine wkP ?_ | refine opB (fun b => ?_) | refine opA (fun a' c' hc1 hc2 => ?_) | (apply GJ.and; exact rfl; intro hg) | (apply GJ.or; exact rfl; intro hg))
            refine ih.run ((hvv.le hl2).le hl3) hw (Rs.up (Rs.up (ro' := ro2) hb)) ht j2 (fun ro4 a4 c4 hl4 hr4 => ?_)
            rw [hF] at hr4
            repeat (first | exact endA | refine wkP ?_ | refine opB (fun b => ?_) | refine opA (fun a' c' hc1 hc2 => ?_) | (apply GJ.and; exact rfl; intro hg) | (apply GJ.or; exact rfl; intro hg))
            repeat (first | exact endA | refine wkP ?_ | refine opB (fun b => ?_) | refine opA (fun a' c' hc1 hc2 => ?_) | (apply GJ.and; exact rfl; intro hg) | (apply GJ.or; exact rfl; intro hg))
            refine Wk.id ⟨(j + 1, Q, F e, a4, c4), ?_, ?_, Sub.auto, Sup.auto⟩
            all_goals try dsimp only
            · exact ⟨hQl, hr4, .inl ⟨by omega, j3⟩⟩
            · omega
          · obtain rfl : j = N := by omega
            rw [Nat.sub_self, moreR, ← hQ] at j3
            repeat (first | exact endA | refine wkP ?_ | refine opB (fun b => ?_) | refine opA (fun a' c' hc1 hc2 => ?_) | (apply GJ.and; exact rfl; intro hg) | (apply GJ.or; exact rfl; intro hg))
            repeat (first | exact endA | refine wkP ?_ | refine opB (fun b => ?_) | refine opA (fun a' c' hc1 hc2 => ?_) | (apply GJ.and; exact rfl; intro hg) | (apply GJ.or; exact rfl; intro hg))
            refine Wk.id ⟨(j + 1, Q, e, am, cm), ?_, ?_, Sub.auto, Sup.auto⟩
            all_goals try dsimp only
            · exact ⟨hQl, j2, .inr ⟨rfl, j3⟩⟩
            · omega
      · have j3 : o = Z := by rcases j3 with ⟨h, _⟩ | ⟨_, h⟩ <;> first | exact h | omega
        subst j3
        repeat (first | exact endA | refine wkP ?_ | refine opB (fun b => ?_) | refine opA (fun a' c' hc1 hc2 => ?_) | (apply GJ.and; exact rfl; intro hg) | (apply GJ.or; exact rfl; intro hg))
        refine Wk.freeze (c := .sl (some ⟨bO, 0, none⟩) _ _ _ _ _) Take.auto (fun ro4 hl4 hc4 => ?_)
        exact Wk.outS Sup.auto (.refl _) (hk ro4 _ _ ((hl2.trans hl3).trans hl4) (Rs.last hc4))
end Go.Proofs.YtinbmhbfcoiefaaGreatDoor
end
section
/- Contracts of the document's answer: Ends, of every expression; Match (guipureref07). -/
namespace Go.Proofs.YtinbmhbfcoiefaaGreatDoor
open Go Go.E
set_option linter.unusedVariables false
set_option linter.unusedSimpArgs false
set_option maxRecDepth 10000
set_option maxHeartbeats 8000000 in
theorem endsC : ∀ n, EndsC n := RgD.ind fun k z l x y ih => ⟨fun {ro own K v t ab af cb cf m} hv hw hb ht hm hk => by
  obtain ⟨hform, hkw⟩ := wrongD_parts hw
  have hF := form_cases hform
  have hv0 := hv
  rw [RgOk] at hv
  obtain ⟨ad, cp, cs, rfl, hs, hrs, hks⟩ := hv
  have hle := hrs.le
  have hmx := hrs.max
  have hbm := hb.max
  have hbl := hb.le
  have hml : m.length = t.length + 1 := by have := hm.n1; rwa [boolsV_len] at this
  unfold maxLen at hmx hbm
  rw [endsR] at hk
  dsimp only at hk
  cases hF with
  | none s a1 b1 =>
    rw [if_pos rfl] at hk
    obtain ⟨L, hL⟩ : ∃ L, L = (List.range (t.length + 1)).map (getB m) := ⟨_, rfl⟩
    rw [← hL] at hk
    have hLl : L.length = t.length + 1 := by rw [hL]; simp
    refine CallOk.intro (args := [_, _, _]) (rs := [_]) T_ok Tryz.func27 Tryz.call27 rfl rfl (by kernel_rfl) rfl rfl ?_
    repeat (first | exact endA | refine wkP ?_ | refine opB (fun b => ?_) | refine opA (fun a' c' hc1 hc2 => ?_) | (apply GJ.and; exact rfl; intro hg) | (apply GJ.or; exact rfl; intro hg))
    rw [show ((t.length : Int) + 1).toNat = t.length + 1 by omega, bools_zero]
    obtain ⟨bO, hbO⟩ : ∃ z : Nat, z = b := ⟨_, rfl⟩
    subst hbO
    refine LoopOk.at (ι := Nat) Keep.auto (fun i => [(8, .int .i64 (i : Int))]) (fun i => .sl (some ⟨bO, 0, none⟩) (t.length + 1) (t.length + 1) 4 1 (boolsV (L.take i ++ List.replicate (t.length + 1 - i) false)) :: own) (fun i => i ≤ t.length + 1) (fun i => t.length + 1 - i) 0 ?_ Sub.auto Sup.auto ?_
    · exact Nat.zero_le _
    rintro i i1
    dsimp only [List.cons_append, List.nil_append] at i1 ⊢
    have hbl := boolsV_len (L.take i ++ List.replicate (t.length + 1 - i) false)
    rw [fill_lenB hLl i1] at hbl
    by_cases hi : i ≤ t.length
    · have hgl : L[i]? = some (getB m i) := by rw [hL]; exact range_map_get _ (by omega)
      have hfs := fillB_set (n := t.length + 1) (z := false) hLl hgl
      have hgm := bangB (l := m) (i := i) (by omega)
      repeat (first | exact endA | refine wkP ?_ | refine opB (fun b => ?_) | refine opA (fun a' c' hc1 hc2 => ?_) | (apply GJ.and; exact rfl; intro hg) | (apply GJ.or; exact rfl; intro hg))
      refine OpOk.storeSlAt' (k := i) rfl rfl rfl rfl (by rw [Int.toNat_natCast]) (by omega) ?_
      rw [hgm, boolsV_set, hfs]
      repeat (first | exact endA | refine wkP ?_ | refine opB (fun b => ?_) | refine opA (fun a' c' hc1 hc2 => ?_) | (apply GJ.and; exact rfl; intro hg) | (apply GJ.or; exact rfl; intro hg))
      repeat (first | exact endA | refine wkP ?_ | refine opB (fun b => ?_) | refine opA (fun a' c' hc1 hc2 => ?_) | (apply GJ.and; exact rfl; intro hg) | (apply GJ.or; exact rfl; intro hg))
      refine Wk.id ⟨i + 1, ⟨rfl, ?_⟩, ?_, Sub.auto, Sup.auto⟩
      all_goals try dsimp only
      · omega
      · omega
    · obtain rfl : i = t.length + 1 := by omega
      rw [Nat.sub_self, List.replicate_zero, List.append_nil, List.take_of_length_le (by omega)]
      repeat (first | exact endA | refine wkP ?_ | refine opB (fun b => ?_) | refine opA (fun a' c' hc1 hc2 => ?_) | (apply GJ.and; exact rfl; intro hg) | (apply GJ.or; exact rfl; intro hg))
      refine Wk.freeze (c := .sl (some ⟨bO, 0, none⟩) _ _ _ _ _) Take.auto (fun ro3 hl3 hc3 => ?_)
      exact Wk.outS Sup.auto (.refl _) (hk ro3 _ _ hl3 (Rs.last hc3))
  | one s a1 b1 h =>
    rw [if_neg (by decide), if_pos rfl] at hk
    obtain ⟨L, hL⟩ : ∃ L, L = (List.range (t.length + 1)).map (fun j => decide (0 < j) && getB m (j - 1) && z.has (t[j - 1]?.getD 0).toNat) := ⟨_, rfl⟩
    rw [← hL] at hk
    have hLl : L.length = t.length + 1 := by rw [hL]; simp
    have hL0 : L[0]? = some false := by rw [hL, range_map_get _ (by omega)]; rfl
    refine CallOk.intro (args := [_, _, _]) (rs := [_]) T_ok Tryz.func27 Tryz.call27 rfl rfl (by kernel_rfl) rfl rfl ?_
    repeat (first | exact endA | refine wkP ?_ | refine opB (fun b => ?_) | refine opA (fun a' c' hc1 hc2 => ?_) | (apply GJ.and; exact rfl; intro hg) | (apply GJ.or; exact rfl; intro hg))
    rw [show ((t.length : Int) + 1).toNat = t.length + 1 by omega, bools_zero]
    obtain ⟨bO, hbO⟩ : ∃ z : Nat, z = b := ⟨_, rfl⟩
    subst hbO
    have hst : List.replicate (t.length + 1) false = L.take 1 ++ List.replicate (t.length + 1 - 1) false := by
      have := fillB_same (n := t.length + 1) (i := 0) (z := false) hLl hL0
      simpa using this
    rw [hst]
    obtain ⟨sa, sb, sc, sd⟩ := z
    refine LoopOk.at (ι := Nat) Keep.auto (fun i => [(9, .int .i64 (i : Int))]) (fun i => .sl (some ⟨bO, 0, none⟩) (t.length + 1) (t.length + 1) 4 1 (boolsV (L.take (i + 1) ++ List.replicate (t.length + 1 - (i + 1)) false)) :: .blk b 26 (nodeV 2 ⟨sa, sb, sc, sd⟩ ad 0 cp x y) :: own) (fun i => i ≤ t.length) (fun i => t.length - i) 0 ?_ Sub.auto Sup.auto ?_
    · exact Nat.zero_le _
    rintro i i1
    dsimp only [List.cons_append, List.nil_append] at i1 ⊢
    have hbl := boolsV_len (L.take (i + 1) ++ List.replicate (t.length + 1 - (i + 1)) false)
    rw [fill_lenB hLl (by omega)] at hbl
    by_cases hi : i < t.length
    · obtain ⟨c, hc⟩ : ∃ c, t[i]? = some c := ⟨_, List.getElem?_eq_getElem hi⟩
      have hgl : L[i + 1]? = some (getB m i && (⟨sa, sb, sc, sd⟩ : SetD).has c.toNat) := by
        rw [hL, range_map_get _ (by omega), decide_eq_true (Nat.succ_pos i), Nat.add_sub_cancel, hc]; rfl
      have hgm := bangB (l := m) (i := i) (by omega)
      have hgc := bang (l := t) hc
      generalize getB m i = p at hgl hgm
      cases p with
      | false =>
        have hfs := fillB_same (n := t.length + 1) (z := false) hLl (hgl.trans (by rw [Bool.false_and]))
        rw [hfs]
        repeat (first | exact endA | refine wkP ?_ | refine opB (fun b => ?_) | refine opA (fun a' c' hc1 hc2 => ?_) | (apply GJ.and; exact rfl; intro hg) | (apply GJ.or; exact rfl; intro hg))
        rw [hgm]
        repeat (first | exact endA | refine wkP ?_ | refine opB (fun b => ?_) | refine opA (fun a' c' hc1 hc2 => ?_) | (apply GJ.and; exact rfl; intro hg) | (apply GJ.or; exact rfl; intro hg))
        repeat (first | exact endA | refine wkP ?_ | refine opB (fun b => ?_) | refine opA (fun a' c' hc1 hc2 => ?_) | (apply GJ.and; exact rfl; intro hg) | (apply GJ.or; exact rfl; intro hg))
        refine Wk.id ⟨i + 1, ⟨rfl, ?_⟩, ?_, Sub.auto, Sup.auto⟩
        all_goals try dsimp only
        · omega
        · omega
      | true =>
        rw [Bool.true_and] at hgl
        repeat (first | exact endA | refine wkP ?_ | refine opB (fun b => ?_) | refine opA (fun a' c' hc1 hc2 => ?_) | (apply GJ.and; exact rfl; intro hg) | (apply GJ.or; exact rfl; intro hg))
        rw [hgm]
        repeat (first | exact endA | refine wkP ?_ | refine opB (fun b => ?_) | refine opA (fun a' c' hc1 hc2 => ?_) | (apply GJ.and; exact rfl; intro hg) | (apply GJ.or; exact rfl; intro hg))
        rw [hgc]
        refine rhas_ok (s := ⟨sa, sb, sc, sd⟩) hs (UInt8.toNat_lt c) ?_
        cases hq : (⟨sa, sb, sc, sd⟩ : SetD).has c.toNat with
        | false =>
          rw [hq] at hgl
          have hfs := fillB_same (n := t.length + 1) (z := false) hLl hgl
          rw [hfs]
          repeat (first | exact endA | refine wkP ?_ | refine opB (fun b => ?_) | refine opA (fun a' c' hc1 hc2 => ?_) | (apply GJ.and; exact rfl; intro hg) | (apply GJ.or; exact rfl; intro hg))
          repeat (first | exact endA | refine wkP ?_ | refine opB (fun b => ?_) | refine opA (fun a' c' hc1 hc2 => ?_) | (apply GJ.and; exact rfl; intro hg) | (apply GJ.or; exact rfl; intro hg))
          refine Wk.id ⟨i + 1, ⟨rfl, ?_⟩, ?_, Sub.auto, Sup.auto⟩
          all_goals try dsimp only
          · omega
          · omega
        | true =>
          rw [hq] at hgl
          have hfs := fillB_set (n := t.length + 1) (z := false) hLl hgl
          repeat (first | exact endA | refine wkP ?_ | refine opB (fun b => ?_) | refine opA (fun a' c' hc1 hc2 => ?_) | (apply GJ.and; exact rfl; intro hg) | (apply GJ.or; exact rfl; intro hg))
          refine OpOk.storeSlAt' (k := i + 1) rfl rfl rfl rfl (by congr 1) (by omega) ?_
          rw [boolsV_set, hfs]
          repeat (first | exact endA | refine wkP ?_ | refine opB (fun b => ?_) | refine opA (fun a' c' hc1 hc2 => ?_) | (apply GJ.and; exact rfl; intro hg) | (apply GJ.or; exact rfl; intro hg))
          repeat (first | exact endA | refine wkP ?_ | refine opB (fun b => ?_) | refine opA (fun a' c' hc1 hc2 => ?_) | (apply GJ.and; exact rfl; intro hg) | (apply GJ.or; exact rfl; intro hg))
          refine Wk.id ⟨i + 1, ⟨rfl, ?_⟩, ?_, Sub.auto, Sup.auto⟩
          all_goals try dsimp only
          · omega
          · omega
    · obtain rfl : i = t.length := by omega
      have e : L.take (t.length + 1) ++ List.replicate (t.length + 1 - (t.length + 1)) false = L := by
        rw [Nat.sub_self, List.replicate_zero, List.append_nil, List.take_of_length_le (by omega)]
      rw [e]
      repeat (first | exact endA | refine wkP ?_ | refine opB (fun b => ?_) | refine opA (fun a' c' hc1 hc2 => ?_) | (apply GJ.and; exact rfl; intro hg) | (apply GJ.or; exact rfl; intro hg))
      refine Wk.freeze (c := .sl (some ⟨bO, 0, none⟩) _ _ _ _ _) Take.auto (fun ro3 hl3 hc3 => ?_)
      exact Wk.outS Sup.auto (.refl _) (hk ro3 _ _ hl3 (Rs.last hc3))
  | cat s x1 y1 l1 a1 b1 =>
    rw [if_neg (by decide), if_neg (by decide), if_pos rfl] at hk
    generalize x1 :: y1 :: l1 = L at *
    have hall := wrongK_all hkw
    refine CallOk.intro (args := [_, _, _]) (rs := [_]) T_ok Tryz.func27 Tryz.call27 rfl rfl (by kernel_rfl) rfl rfl ?_
    repeat (first | exact endA | refine wkP ?_ | refine opB (fun b => ?_) | refine opA (fun a' c' hc1 hc2 => ?_) | (apply GJ.and; exact rfl; intro hg) | (apply GJ.or; exact rfl; intro hg))
    rename_i b0 
    refine LoopOk.auto (ι := Nat × List Bool × Option Addr × Nat) Keep.auto (fun (i, mi, am, cm) => [(11, .int .i64 (i : Int)), (10, .slice am (t.length + 1) cm)]) (fun (i, mi, am, cm) => .blk b0 26 (nodeV 3 z ad L.length cp x y) :: own) (fun (i, mi, am, cm) ro2 => i ≤ L.length ∧ Rs ro2 am (t.length + 1) cm 1 (boolsV mi) ∧ catE t (L.drop i) mi = catE t L m) (fun (i, mi, am, cm) => L.length - i) (0, m, af, cf) ?_ Sub.auto Sup.auto ?_
    · exact ⟨Nat.zero_le _, hm, rfl⟩
    rintro ⟨i, mi, am, cm⟩ ro2 hl2 ⟨i1, i2, i3⟩
    dsimp only [List.cons_append, List.nil_append] at i1 i2 i3 ⊢
    by_cases hi : i < L.length
    · obtain ⟨kd, hkd⟩ : ∃ kd, L[i]? = some kd := ⟨_, List.getElem?_eq_getElem hi⟩
      have hvv := hks.get hkd
      obtain ⟨ak, ck, hvk⟩ := hvv.cells
      rw [hvk] at hvv
      rw [dropN_cons hkd, catE] at i3
      repeat (first | exact endA | refine wkP ?_ | refine opB (fun b => ?_) | refine opA (fun a' c' hc1 hc2 => ?_) | (apply GJ.and; exact rfl; intro hg) | (apply GJ.or; exact rfl; intro hg))
      rw [Int.toNat_natCast]
      refine OpOk.loadRow rfl rfl (LdN.at hrs hvk) rfl ?_
      repeat (first | exact endA | refine wkP ?_ | refine opB (fun b => ?_) | refine opA (fun a' c' hc1 hc2 => ?_) | (apply GJ.and; exact rfl; intro hg) | (apply GJ.or; exact rfl; intro hg))
      refine (ih kd (List.mem_of_getElem? hkd)).run (hvv.le hl2) (hall kd (List.mem_of_getElem? hkd)) (Rs.up hb) ht i2 (fun ro3 a3 c3 hl3 hr3 => ?_)
      repeat (first | exact endA | refine wkP ?_ | refine opB (fun b => ?_) | refine opA (fun a' c' hc1 hc2 => ?_) | (apply GJ.and; exact rfl; intro hg) | (apply GJ.or; exact rfl; intro hg))
      repeat (first | exact endA | refine wkP ?_ | refine opB (fun b => ?_) | refine opA (fun a' c' hc1 hc2 => ?_) | (apply GJ.and; exact rfl; intro hg) | (apply GJ.or; exact rfl; intro hg))
      refine Wk.id ⟨(i + 1, endsR t kd mi, a3, c3), ?_, ?_, Sub.auto, Sup.auto⟩
      all_goals try dsimp only
      · exact ⟨by omega, hr3, i3⟩
      · omega
    · obtain rfl : i = L.length := by omega
      rw [List.drop_length, catE] at i3
      subst i3
      repeat (first | exact endA | refine wkP ?_ | refine opB (fun b => ?_) | refine opA (fun a' c' hc1 hc2 => ?_) | (apply GJ.and; exact rfl; intro hg) | (apply GJ.or; exact rfl; intro hg))
      exact Wk.outS Sup.auto (.refl _) (hk ro2 _ _ hl2 i2)
  | alt s x1 y1 l1 a1 b1 =>
    rw [if_neg (by decide), if_neg (by decide), if_neg (by decide), if_pos rfl] at hk
    generalize x1 :: y1 :: l1 = L at *
    have hall := wrongK_all hkw
    refine CallOk.intro (args := [_, _, _]) (rs := [_]) T_ok Tryz.func27 Tryz.call27 rfl rfl (by kernel_rfl) rfl rfl ?_
    repeat (first | exact endA | refine wkP ?_ | refine opB (fun b => ?_) | refine opA (fun a' c' hc1 hc2 => ?_) | (apply GJ.and; exact rfl; intro hg) | (apply GJ.or; exact rfl; intro hg))
    rw [show ((t.length : Int) + 1).toNat = t.length + 1 by omega, bools_zero]
    obtain ⟨bO, hbO⟩ : ∃ z : Nat, z = b := ⟨_, rfl⟩
    subst hbO
    refine LoopOk.auto (ι := Nat × List Bool) Keep.auto (fun (i, o) => [(12, .int .i64 (i : Int))]) (fun (i, o) => .sl (some ⟨bO, 0, none⟩) (t.length + 1) (t.length + 1) 4 1 (boolsV o) :: .blk b 26 (nodeV 4 z ad L.length cp x y) :: own) (fun (i, o) ro2 => i ≤ L.length ∧ o.length = t.length + 1 ∧ altE t (L.drop i) m o = altE t L m (noneR t.length)) (fun (i, o) => L.length - i) (0, noneR t.length) ?_ Sub.auto Sup.auto ?_
    · exact ⟨Nat.zero_le _, by simp [noneR], rfl⟩
    rintro ⟨i, o⟩ ro2 hl2 ⟨i1, i2, i3⟩
    dsimp only [List.cons_append, List.nil_append] at i1 i2 i3 ⊢
    by_cases hi : i < L.length
    · obtain ⟨kd, hkd⟩ : ∃ kd, L[i]? = some kd := ⟨_, List.getElem?_eq_getElem hi⟩
      have hvv := hks.get hkd
      obtain ⟨ak, ck, hvk⟩ := hvv.cells
      rw [hvk] at hvv
      rw [dropN_cons hkd, altE] at i3
      dsimp only at i3
      repeat (first | exact endA | refine wkP ?_ | refine opB (fun b => ?_) | refine opA (fun a' c' hc1 hc2 => ?_) | (apply GJ.and; exact rfl; intro hg) | (apply GJ.or; exact rfl; intro hg))
      rw [Int.toNat_natCast]
      refine OpOk.loadRow rfl rfl (LdN.at hrs hvk) rfl ?_
      repeat (first | exact endA | refine wkP ?_ | refine opB (fun b => ?_) | refine opA (fun a' c' hc1 hc2 => ?_) | (apply GJ.and; exact rfl; intro hg) | (apply GJ.or; exact rfl; intro hg))
      refine (ih kd (List.mem_of_getElem? hkd)).run (hvv.le hl2) (hall kd (List.mem_of_getElem? hkd)) (Rs.up hb) ht (Rs.up hm) (fun ro3 a3 c3 hl3 hr3 => ?_)
      generalize endsR t kd m = e at i3 hr3
      have hel : e.length = t.length + 1 := by have := hr3.n1; rwa [boolsV_len] at this
      obtain ⟨Q, hQ⟩ : ∃ Q, Q = orR o e t.length := ⟨_, rfl⟩
      rw [← hQ] at i3
      have hQl : Q.length = t.length + 1 := by rw [hQ]; exact orR_len _ _ _
      repeat (first | exact endA | refine wkP ?_ | refine opB (fun b => ?_) | refine opA (fun a' c' hc1 hc2 => ?_) | (apply GJ.and; exact rfl; intro hg) | (apply GJ.or; exact rfl; intro hg))
      refine LoopOk.at (ι := Nat) Keep.auto (fun k => [(14, .int .i64 (k : Int))]) (fun k => .sl (some ⟨bO, 0, none⟩) (t.length + 1) (t.length + 1) 4 1 (boolsV (Q.take k ++ o.drop k)) :: .blk b 26 (nodeV 4 z ad L.length cp x y) :: own) (fun k => k ≤ t.length + 1) (fun k => t.length + 1 - k) 0 ?_ Sub.auto Sup.auto ?_
      · exact Nat.zero_le _
      rintro k k1
      dsimp only [List.cons_append, List.nil_append] at k1 ⊢
      have hml2 := mixB_len hQl i2 k1
      have hbl2 := (boolsV_len (Q.take k ++ o.drop k)).trans hml2
      by_cases hkl : k ≤ t.length
      · have hQk : Q[k]? = some (getB o k || getB e k) := by rw [hQ]; exact range_map_get _ (by omega)
        have hms := mixB_set hQl i2 hQk
        have hgo := (bangB (l := Q.take k ++ o.drop k) (i := k) (by omega)).trans (mixB_get hQl i2 (by omega))
        have hge := bangB (l := e) (i := k) (by omega)
        generalize getB o k = p at hms hgo
        generalize getB e k = p2 at hms hge
        cases p with
        | true =>
          repeat (first | exact endA | refine wkP ?_ | refine opB (fun b => ?_) | refine opA (fun a' c' hc1 hc2 => ?_) | (apply GJ.and; exact rfl; intro hg) | (apply GJ.or; exact rfl; intro hg))
          rw [hgo]
          repeat (first | exact endA | refine wkP ?_ | refine opB (fun b => ?_) | refine opA (fun a' c' hc1 hc2 => ?_) | (apply GJ.and; exact rfl; intro hg) | (apply GJ.or; exact rfl; intro hg))
          refine OpOk.storeSlAt' (k := k) rfl rfl rfl rfl (by rw [Int.toNat_natCast]) (by omega) ?_
          have hms2 : (Q.take k ++ o.drop k).set k true = Q.take (k + 1) ++ o.drop (k + 1) := hms
          rw [boolsV_set, hms2]
          repeat (first | exact endA | refine wkP ?_ | refine opB (fun b => ?_) | refine opA (fun a' c' hc1 hc2 => ?_) | (apply GJ.and; exact rfl; intro hg) | (apply GJ.or; exact rfl; intro hg))
          repeat (first | exact endA | refine wkP ?_ | refine opB (fun b => ?_) | refine opA (fun a' c' hc1 hc2 => ?_) | (apply GJ.and; exact rfl; intro hg) | (apply GJ.or; exact rfl; intro hg))
          refine Wk.id ⟨k + 1, ⟨rfl, ?_⟩, ?_, Sub.auto, Sup.auto⟩
          all_goals try dsimp only
          · omega
          · omega
        | false =>
          repeat (first | exact endA | refine wkP ?_ | refine opB (fun b => ?_) | refine opA (fun a' c' hc1 hc2 => ?_) | (apply GJ.and; exact rfl; intro hg) | (apply GJ.or; exact rfl; intro hg))
          rw [hgo]
          repeat (first | exact endA | refine wkP ?_ | refine opB (fun b => ?_) | refine opA (fun a' c' hc1 hc2 => ?_) | (apply GJ.and; exact rfl; intro hg) | (apply GJ.or; exact rfl; intro hg))
          rw [hge]
          repeat (first | exact endA | refine wkP ?_ | refine opB (fun b => ?_) | refine opA (fun a' c' hc1 hc2 => ?_) | (apply GJ.and; exact rfl; intro hg) | (apply GJ.or; exact rfl; intro hg))
          refine OpOk.storeSlAt' (k := k) rfl rfl rfl rfl (by rw [Int.toNat_natCast]) (by omega) ?_
          rw [boolsV_set, hms]
          repeat (first | exact endA | refine wkP ?_ | refine opB (fun b => ?_) | refine opA (fun a' c' hc1 hc2 => ?_) | (apply GJ.and; exact rfl; intro hg) | (apply GJ.or; exact rfl; intro hg))
          repeat (first | exact endA | refine wkP ?_ | refine opB (fun b => ?_) | refine opA (fun a' c' hc1 hc2 => ?_) | (apply GJ.and; exact rfl; intro hg) | (apply GJ.or; exact rfl; intro hg))
          refine Wk.id ⟨k + 1, ⟨rfl, ?_⟩, ?_, Sub.auto, Sup.auto⟩
          all_goals try dsimp only
          · omega
          · omega
      · obtain rfl : k = t.length + 1 := by omega
        have e2 : Q.take (t.length + 1) ++ o.drop (t.length + 1) = Q := by
          rw [List.take_of_length_le (by omega), List.drop_eq_nil_of_le (by omega), List.append_nil]
        rw [e2]
        repeat (first | exact endA | refine wkP ?_ | refine opB (fun b => ?_) | refine opA (fun a' c' hc1 hc2 => ?_) | (apply GJ.and; exact rfl; intro hg) | (apply GJ.or; exact rfl; intro hg))
        repeat (first | exact endA | refine wkP ?_ | refine opB (fun b => ?_) | refine opA (fun a' c' hc1 hc2 => ?_) | (apply GJ.and; exact rfl; intro hg) | (apply GJ.or; exact rfl; intro hg))
        refine Wk.id ⟨(i + 1, Q), ?_, ?_, Sub.auto, Sup.auto⟩
        all_goals try dsimp only
        · exact ⟨by omega, hQl, i3⟩
        · omega
    · obtain rfl : i = L.length := by omega
      rw [List.drop_length, altE] at i3
      subst i3
      repeat (first | exact endA | refine wkP ?_ | refine opB (fun b => ?_) | refine opA (fun a' c' hc1 hc2 => ?_) | (apply GJ.and; exact rfl; intro hg) | (apply GJ.or; exact rfl; intro hg))
      refine Wk.freeze (c := .sl (some ⟨bO, 0, none⟩) _ _ _ _ _) Take.auto (fun ro3 hl3 hc3 => ?_)
      exact Wk.outS Sup.auto (.refl _) (hk ro3 _ _ (hl2.trans hl3) (Rs.last hc3))
  | rep s x1 a1 b1 h =>
    rw [if_neg (by decide), if_neg (by decide), if_neg (by decide), if_neg (by decide), if_pos rfl] at hk
    have hkid : kidE t [x1] = endsR t x1 := by rw [kidE]
    rw [hkid] at hk
    refine CallOk.intro (args := [_, _, _]) (rs := [_]) T_ok Tryz.func27 Tryz.call27 rfl rfl (by kernel_rfl) rfl rfl ?_
    repeat (first | exact endA | refine wkP ?_ | refine opB (fun b => ?_) | refine opA (fun a' c' hc1 hc2 => ?_) | (apply GJ.and; exact rfl; intro hg) | (apply GJ.or; exact rfl; intro hg))
    refine rrep_ok (ih x1 (List.mem_singleton.2 rfl)) hv0 (wrongK_all hkw x1 (List.mem_singleton.2 rfl)) (by omega) hb ht hm (fun ro3 a3 c3 hl3 hr3 => ?_)
    repeat (first | exact endA | refine wkP ?_ | refine opB (fun b => ?_) | refine opA (fun a' c' hc1 hc2 => ?_) | (apply GJ.and; exact rfl; intro hg) | (apply GJ.or; exact rfl; intro hg))
    exact Wk.outS Sup.auto (.refl _) (hk ro3 _ _ hl3 hr3)⟩
section
variable {ro : Ro} {own r : Chs} {K : Value → Ro → Chs → Prop} {g : Chunk → Chs}
theorem rmatch_ok {n : RgD} {v : List Value} {t : List UInt8} {ab : Option Addr} {cb : Nat} (hv : RgOk ro n v) (hw : wrongD n = 0) (hb : Bys ro ab t.length cb t) (ht : t.length ≤ 100000) (hk : ∀ ro', Le ro ro' → K (.bool (refM n t)) ro' own) :
    CallOk Tryz.prog 10 #[.agg v.toArray, .slice ab t.length cb] ro own K := by
  have hbm := hb.max
  have hbl := hb.le
  unfold maxLen at hbm
  obtain ⟨ak, ck, hvk⟩ := hv.cells
  have hv0 := hv
  rw [hvk] at hv ⊢
  refine CallOk.intro (args := [_, _]) (rs := [_]) T_ok Tryz.func10 Tryz.call10 rfl rfl (by kernel_rfl) rfl rfl ?_
  repeat (first | exact endA | refine wkP ?_ | refine opB (fun b => ?_) | refine opA (fun a' c' hc1 hc2 => ?_) | (apply GJ.and; exact rfl; intro hg) | (apply GJ.or; exact rfl; intro hg))
  rw [show ((t.length : Int) + 1).toNat = t.length + 1 by omega, bools_zero]
  have hzl := boolsV_len (List.replicate (t.length + 1) false)
  rw [List.length_replicate] at hzl
  refine OpOk.storeSlAt' (k := 0) rfl rfl rfl rfl rfl (by omega) ?_
  rw [boolsV_set, show (List.replicate (t.length + 1) false).set 0 true = firstE t.length by rw [List.replicate_succ]; rfl]
  repeat (first | exact endA | refine wkP ?_ | refine opB (fun b => ?_) | refine opA (fun a' c' hc1 hc2 => ?_) | (apply GJ.and; exact rfl; intro hg) | (apply GJ.or; exact rfl; intro hg))
  refine CallOk.freeze (c := .sl (some ⟨b, 0, none⟩) _ _ _ _ _) Take.auto (fun ro2 hl2 hc2 => ?_)
  refine (endsC n).run (hv.le hl2) hw (Rs.up hb) ht (Rs.last hc2) (fun ro3 a3 c3 hl3 hr3 => ?_)
  have hel : (endsR t n (firstE t.length)).length = t.length + 1 := by have := hr3.n1; rwa [boolsV_len] at this
  have hge := bangB (l := endsR t n (firstE t.length)) (i := t.length) (by omega)
  repeat (first | exact endA | refine wkP ?_ | refine opB (fun b => ?_) | refine opA (fun a' c' hc1 hc2 => ?_) | (apply GJ.and; exact rfl; intro hg) | (apply GJ.or; exact rfl; intro hg))
  rw [hge]
  exact Wk.outS Sup.auto (.refl _) (hk ro3 (hl2.trans hl3))
end
end Go.Proofs.YtinbmhbfcoiefaaGreatDoor
end
section
/- Contracts of dfa's laws: few, made. -/
namespace Go.Proofs.YtinbmhbfcoiefaaGreatDoor
open Go Go.E
set_option linter.unusedVariables false
set_option linter.unusedSimpArgs false
set_option maxRecDepth 10000
structure Fw8C (n : RgD) : Prop where
  run : ∀ {ro : Ro} {r : Chs} {K : Value → Ro → Chs → Prop} {p : Nat} {v : List Value} {M : Int}, RgOk ro n v → 0 ≤ M → M ≤ 100000 → K (.bool (fewX 4 5 n M).1) ro (.blk p 3 [.int .i64 (fewX 4 5 n M).2] :: r) →
    CallOk Tryz.prog 19 #[.agg v.toArray, ptr' p] ro (.blk p 3 [.int .i64 M] :: r) K
set_option maxHeartbeats 16000000 in
theorem fw8C : ∀ n, Fw8C n := RgD.ind fun k z l x y ih => ⟨fun {ro r K p v M} hv hM hM2 hk => by
  rw [RgOk] at hv
  obtain ⟨ad, cp, cs, rfl, hs, hrs, hks⟩ := hv
  have hle := hrs.le
  have hmx := hrs.max
  unfold maxLen at hmx
  rw [fewX] at hk
  dsimp only at hk
  by_cases h0 : M - 1 < 0
  · rw [if_pos (.inl (.inl h0))] at hk
    refine CallOk.intro (args := [_, _]) (rs := [_]) T_ok Tryz.func19 Tryz.call19 rfl rfl (by kernel_rfl) rfl rfl ?_
    repeat (first | exact endA | refine wkP ?_ | refine opB (fun b => ?_) | refine opA (fun a' c' hc1 hc2 => ?_) | (apply GJ.and; exact rfl; intro hg) | (apply GJ.or; exact rfl; intro hg))
    exact Wk.outS Sup.auto (.refl _) hk
  by_cases h100 : 30 < l.length
  · rw [if_pos (.inl (.inr h100))] at hk
    refine CallOk.intro (args := [_, _]) (rs := [_]) T_ok Tryz.func19 Tryz.call19 rfl rfl (by kernel_rfl) rfl rfl ?_
    repeat (first | exact endA | refine wkP ?_ | refine opB (fun b => ?_) | refine opA (fun a' c' hc1 hc2 => ?_) | (apply GJ.and; exact rfl; intro hg) | (apply GJ.or; exact rfl; intro hg))
    exact Wk.outS Sup.auto (.refl _) hk
  by_cases hk5 : k = 5 ∧ (4 < x ∨ 5 < y)
  · rw [if_pos (.inr hk5)] at hk
    obtain ⟨rfl, hk6⟩ := hk5
    by_cases hx6 : 4 < x
    · refine CallOk.intro (args := [_, _]) (rs := [_]) T_ok Tryz.func19 Tryz.call19 rfl rfl (by kernel_rfl) rfl rfl ?_
      repeat (first | exact endA | refine wkP ?_ | refine opB (fun b => ?_) | refine opA (fun a' c' hc1 hc2 => ?_) | (apply GJ.and; exact rfl; intro hg) | (apply GJ.or; exact rfl; intro hg))
      exact Wk.outS Sup.auto (.refl _) hk
    · have hy8 : 5 < y := hk6.resolve_left hx6
      refine CallOk.intro (args := [_, _]) (rs := [_]) T_ok Tryz.func19 Tryz.call19 rfl rfl (by kernel_rfl) rfl rfl ?_
      repeat (first | exact endA | refine wkP ?_ | refine opB (fun b => ?_) | refine opA (fun a' c' hc1 hc2 => ?_) | (apply GJ.and; exact rfl; intro hg) | (apply GJ.or; exact rfl; intro hg))
      exact Wk.outS Sup.auto (.refl _) hk
  rw [if_neg (fun z => z.elim (fun u => u.elim h0 h100) hk5)] at hk
  refine CallOk.intro (args := [_, _]) (rs := [_]) T_ok Tryz.func19 Tryz.call19 rfl rfl (by kernel_rfl) rfl rfl ?_
  repeat (first | exact endA | refine wkP ?_ | refine opB (fun b => ?_) | refine opA (fun a' c' hc1 hc2 => ?_) | (apply GJ.and; exact rfl; intro hg) | (apply GJ.or; exact rfl; intro hg))
  refine LoopOk.at (ι := Nat × Int) Keep.auto (fun (i, Mi) => [(40, .int .i64 (i : Int))]) (fun (i, Mi) => .blk p 3 [.int .i64 Mi] :: r) (fun (i, Mi) => i ≤ l.length ∧ 0 ≤ Mi ∧ Mi ≤ M - 1 ∧ fewY 4 5 l (M - 1) = fewY 4 5 (l.drop i) Mi) (fun (i, Mi) => l.length - i) (0, M - 1) ?_ Sub.auto Sup.auto ?_
  · exact ⟨Nat.zero_le _, by omega, Int.le_refl _, by simp⟩
  rintro ⟨i, Mi⟩ ⟨i1, i2, i3, i4⟩
  dsimp only [List.cons_append, List.nil_append] at i1 i2 i3 i4 ⊢
  by_cases hi : i < l.length
  · obtain ⟨kd, hkd⟩ : ∃ kd, l[i]? = some kd := ⟨_, List.getElem?_eq_getElem hi⟩
    have hvv := hks.get hkd
    obtain ⟨ak, ck, hvk⟩ := hvv.cells
    rw [hvk] at hvv
    have hdr : l.drop i = kd :: l.drop (i + 1) := by
      rw [List.drop_eq_getElem_cons hi]
      congr 1
      rw [List.getElem?_eq_getElem hi] at hkd
      exact Option.some.inj hkd
    rw [hdr, fewY] at i4
    dsimp only at i4
    have hleft := fewX_left (mn := 4) (mx := 5) kd Mi
    repeat (first | exact endA | refine wkP ?_ | refine opB (fun b => ?_) | refine opA (fun a' c' hc1 hc2 => ?_) | (apply GJ.and; exact rfl; intro hg) | (apply GJ.or; exact rfl; intro hg))
    rw [Int.toNat_natCast]
    refine OpOk.loadRow rfl rfl (LdN.at hrs hvk) rfl ?_
    repeat (first | exact endA | refine wkP ?_ | refine opB (fun b => ?_) | refine opA (fun a' c' hc1 hc2 => ?_) | (apply GJ.and; exact rfl; intro hg) | (apply GJ.or; exact rfl; intro hg))
    refine CallOk.sup (own0 := .blk p 3 [.int .i64 Mi] :: r) Sup.auto ?_
    refine (ih kd (List.mem_of_getElem? hkd)).run hvv i2 (by omega) ?_
    generalize fewX 4 5 kd Mi = R at i4 hleft ⊢
    obtain ⟨R1, R2⟩ := R
    dsimp only at i4 hleft ⊢
    cases R1 with
    | true =>
      rw [if_pos rfl] at i4
      obtain ⟨h5, h6⟩ := hleft rfl
      repeat (first | exact endA | refine wkP ?_ | refine opB (fun b => ?_) | refine opA (fun a' c' hc1 hc2 => ?_) | (apply GJ.and; exact rfl; intro hg) | (apply GJ.or; exact rfl; intro hg))
      refine Wk.id ⟨(i + 1, R2), ⟨rfl, ?_⟩, ?_, Sub.auto, Sup.auto⟩
      all_goals try dsimp only
      · exact ⟨by omega, h5, by omega, i4⟩
      · omega
    | false =>
      rw [if_neg (by decide)] at i4
      rw [i4] at hk
      repeat (first | exact endA | refine wkP ?_ | refine opB (fun b => ?_) | refine opA (fun a' c' hc1 hc2 => ?_) | (apply GJ.and; exact rfl; intro hg) | (apply GJ.or; exact rfl; intro hg))
      exact Wk.outS Sup.auto (.refl _) hk
  · obtain rfl : i = l.length := by omega
    rw [List.drop_length, fewY] at i4
    dsimp only at i4
    rw [i4] at hk
    repeat (first | exact endA | refine wkP ?_ | refine opB (fun b => ?_) | refine opA (fun a' c' hc1 hc2 => ?_) | (apply GJ.and; exact rfl; intro hg) | (apply GJ.or; exact rfl; intro hg))
    exact Wk.outS Sup.auto (.refl _) hk⟩
/-- Is there an automaton (made)? -/
def mdB (n : RgD) : Prop := (fewX 4 5 n 16).1 = true ∧ (makeN n).1 = 0 ∧ (makeA (makeN n).2).1 = 0
section
variable {ro : Ro} {own r : Chs} {K : Value → Ro → Chs → Prop} {g : Chunk → Chs}
theorem dmade_ok {n : RgD} {v : List Value} (ht : TabOk ro) (hv : RgOk ro n v)
    (hk0 : ∀ ro', Le ro ro' → ¬ mdB n → K (.tuple #[.pointer none, .pointer none, .bool false]) ro' own)
    (hk1 : ∀ ro' p q, Le ro ro' → mdB n → DAt ro' p (makeA (makeN n).2).2 → DAt ro' q (lstD n) → K (.tuple #[ptr' p, ptr' q, .bool true]) ro' own) :
    CallOk Tryz.prog 9 #[.agg v.toArray] ro own K := by
  have hin := rg_ins hv
  obtain ⟨a1, c1, hvc⟩ := hv.cells
  have hv0 := hv
  subst hvc
  have hK := make_k hin
  refine CallOk.intro (args := [_]) (rs := [_, _, _]) T_ok Tryz.func9 Tryz.call9 rfl rfl (by kernel_rfl) rfl rfl ?_
  repeat (first | exact endA | refine wkP ?_ | refine opB (fun b => ?_) | refine opA (fun a' c' hc1 hc2 => ?_) | (apply GJ.and; exact rfl; intro hg) | (apply GJ.or; exact rfl; intro hg))
  refine (fw8C n).run hv0 (by decide) (by decide) ?_
  by_cases hf : (fewX 4 5 n 16).1 = true
  · rw [hf]
    repeat (first | exact endA | refine wkP ?_ | refine opB (fun b => ?_) | refine opA (fun a' c' hc1 hc2 => ?_) | (apply GJ.and; exact rfl; intro hg) | (apply GJ.or; exact rfl; intro hg))
    refine nmake_ok hv0 (fun ro2 v2 hl2 hA => ?_)
    have hA0 := hA
    by_cases h1 : (makeN n).1 = 0
    · obtain ⟨hw, hsl⟩ := make_size h1
      rw [h1]
      obtain ⟨ad, cp, hs, rfl, hrs, hrw⟩ := hA
      repeat (first | exact endA | refine wkP ?_ | refine opB (fun b => ?_) | refine opA (fun a' c' hc1 hc2 => ?_) | (apply GJ.and; exact rfl; intro hg) | (apply GJ.or; exact rfl; intro hg))
      refine dmake_ok hA0 hK (ht.le hl2) hsl (fun h2 ro3 hl3 => ?_) (fun h2 ro3 p hl3 hp => ?_)
      · repeat (first | exact endA | refine wkP ?_ | refine opB (fun b => ?_) | refine opA (fun a' c' hc1 hc2 => ?_) | (apply GJ.and; exact rfl; intro hg) | (apply GJ.or; exact rfl; intro hg))
        exact Wk.outS Sup.auto (.refl _) (hk0 ro3 (hl2.trans hl3) (fun h => h2 h.2.2))
      · have hm := (made_a2 hK.ok.to hK.sets h2).1
        obtain ⟨w, hw6, ho, hs⟩ := hm.ok
        repeat (first | exact endA | refine wkP ?_ | refine opB (fun b => ?_) | refine opA (fun a' c' hc1 hc2 => ?_) | (apply GJ.and; exact rfl; intro hg) | (apply GJ.or; exact rfl; intro hg))
        refine dleast_ok hp ho hs hw6 hm.pos hm.le (fun ro4 p4 hl4 hp4 => ?_)
        repeat (first | exact endA | refine wkP ?_ | refine opB (fun b => ?_) | refine opA (fun a' c' hc1 hc2 => ?_) | (apply GJ.and; exact rfl; intro hg) | (apply GJ.or; exact rfl; intro hg))
        exact Wk.outS Sup.auto (.refl _) (hk1 ro4 p p4 ((hl2.trans hl3).trans hl4) ⟨hf, h1, h2⟩ (hp.le hl4) hp4)
    · have hz : (makeN n).1 ≠ 0 := h1
      obtain ⟨ad, cp, hs, rfl, hrs, hrw⟩ := hA
      repeat (first | exact endA | refine wkP ?_ | refine opB (fun b => ?_) | refine opA (fun a' c' hc1 hc2 => ?_) | (apply GJ.and; exact rfl; intro hg) | (apply GJ.or; exact rfl; intro hg))
      exact Wk.outS Sup.auto (.refl _) (hk0 ro2 hl2 (fun h => h1 h.2.1))
  · rw [Bool.not_eq_true] at hf
    rw [hf]
    repeat (first | exact endA | refine wkP ?_ | refine opB (fun b => ?_) | refine opA (fun a' c' hc1 hc2 => ?_) | (apply GJ.and; exact rfl; intro hg) | (apply GJ.or; exact rfl; intro hg))
    exact Wk.outS Sup.auto (.refl _) (hk0 ro (Le.refl _) (fun h => Bool.noConfusion (hf.symm.trans h.1)))
end
end Go.Proofs.YtinbmhbfcoiefaaGreatDoor
end
section
/- Contracts of dfa's laws: makes (the automaton of some as and a b). -/
namespace Go.Proofs.YtinbmhbfcoiefaaGreatDoor
open Go Go.E
set_option linter.unusedVariables false
set_option linter.unusedSimpArgs false
set_option maxRecDepth 10000
def abT : List UInt8 := [97, 43, 98]
def abD : RgD := (parseD abT).1
theorem ab_ok : (parseD abT).2 = (0, 0) := by kernel_rfl
theorem ab_make : (makeN abD).1 = 0 := by kernel_rfl
theorem ab_makeA : (makeA (makeN abD).2).1 = 0 := by kernel_rfl
theorem ab_e : lstE abD = 0 := by
  unfold lstE
  rw [ab_make, if_neg (by decide)]
  exact ab_makeA
theorem ab_len : (lstD abD).next.length = 3 := by kernel_rfl
theorem ab_width : widthA (lstD abD) = 3 := by kernel_rfl
theorem ab_m1 : matchA (lstD abD) [97, 97, 98] = true := by kernel_rfl
theorem ab_m2 : matchA (lstD abD) [97, 97, 98, 98] = false := by kernel_rfl
theorem ab_s1 : stepA (lstD abD) 0 98 = -1 := by kernel_rfl
theorem ab_s2 : stepA (lstD abD) 0 97 = 1 := by kernel_rfl
theorem ab_e1 : endsA (lstD abD) 2 = true := by kernel_rfl
theorem ab_e2 : endsA (lstD abD) (-1) = false := by kernel_rfl
/-- What is known of an expression's least automaton. -/
theorem lst_least {n : RgD} {v : List Value} {ro : Ro} (hv : RgOk ro n v) (h : lstE n = 0) : LeastA (lstD n) ∧ MadeA (makeA (makeN n).2).2 := by
  have hK := make_k (rg_ins hv)
  unfold lstE at h
  have h1 : (makeN n).1 = 0 := by
    refine Decidable.byContradiction fun hn => ?_
    rw [if_pos hn] at h
    exact hn h
  rw [h1, if_neg (by decide)] at h
  have hm := (made_a2 hK.ok.to hK.sets h).1
  exact ⟨hm.least.1, hm⟩
section
variable {ro : Ro} {own r : Chs} {K : Value → Ro → Chs → Prop} {g : Chunk → Chs}
theorem makes08_ok (ht : TabOk ro) (hk : ∀ ro', Le ro ro' → K (.bool true) ro' own) : CallOk Tryz.prog 8 #[] ro own K := by
  refine CallOk.intro (args := []) (rs := [_]) T_ok Tryz.func8 Tryz.call8 rfl rfl (by kernel_rfl) rfl rfl ?_
  repeat (first | exact endA | refine wkP ?_ | refine opB (fun b => ?_) | refine opA (fun a' c' hc1 hc2 => ?_) | (apply GJ.and; exact rfl; intro hg) | (apply GJ.or; exact rfl; intro hg))
  refine rparse_ok (t := abT) (by decide) (fun ro2 v hl2 hv => ?_)
  rw [ab_ok]
  have hab : (parseD abT).1 = abD := rfl
  rw [hab] at hv
  have hv0 := hv
  obtain ⟨a1, c1, hvc⟩ := hv.cells
  subst hvc
  obtain ⟨hlst, hmd⟩ := lst_least hv0 ab_e
  have he := ab_e
  have f1 := ab_len
  have f2 := ab_width
  have f3 := ab_m1
  have f4 := ab_m2
  have f5 := ab_s1
  have f6 := ab_s2
  have f7 := ab_e1
  have f8 := ab_e2
  clear hab hv
  generalize abD = n at *
  obtain ⟨w, hw6, ho, hsu, hsx⟩ := hlst.ok
  clear hlst hsu hw6 hsx hmd
  repeat (first | exact endA | refine wkP ?_ | refine opB (fun b => ?_) | refine opA (fun a' c' hc1 hc2 => ?_) | (apply GJ.and; exact rfl; intro hg) | (apply GJ.or; exact rfl; intro hg))
  refine dof_ok (ht.le hl2) hv0 (fun ro3 P hl3 hP => ?_)
  rw [he]
  obtain ⟨_, p, rfl, hp⟩ := hP.resolve_left (fun h => h.1 he)
  repeat (first | exact endA | refine wkP ?_ | refine opB (fun b => ?_) | refine opA (fun a' c' hc1 hc2 => ?_) | (apply GJ.and; exact rfl; intro hg) | (apply GJ.or; exact rfl; intro hg))
  refine later_ok (fun q => ?_)
  repeat (first | exact endA | refine wkP ?_ | refine opB (fun b => ?_) | refine opA (fun a' c' hc1 hc2 => ?_) | (apply GJ.and; exact rfl; intro hg) | (apply GJ.or; exact rfl; intro hg))
  refine lauto0_ok (n := n) (a := a1) (c := c1) (x := 0) ((ht.le hl2).le hl3) (hv0.le hl3) (by decide) (fun ro4 P2 hl4 hP2 => ?_)
  rw [he]
  obtain ⟨_, p2, rfl, hp2⟩ := hP2.resolve_left (fun h => h.1 he)
  dsimp only [lz1]
  rw [he]
  repeat (first | exact endA | refine wkP ?_ | refine opB (fun b => ?_) | refine opA (fun a' c' hc1 hc2 => ?_) | (apply GJ.and; exact rfl; intro hg) | (apply GJ.or; exact rfl; intro hg))
  refine counts_ok (by decide) ?_
  repeat (first | exact endA | refine wkP ?_ | refine opB (fun b => ?_) | refine opA (fun a' c' hc1 hc2 => ?_) | (apply GJ.and; exact rfl; intro hg) | (apply GJ.or; exact rfl; intro hg))
  have hq := hp.le hl4
  refine dsame_ok hq hp2 ?_
  repeat (first | exact endA | refine wkP ?_ | refine opB (fun b => ?_) | refine opA (fun a' c' hc1 hc2 => ?_) | (apply GJ.and; exact rfl; intro hg) | (apply GJ.or; exact rfl; intro hg))
  refine dlen_ok hq ?_
  rw [f1]
  repeat (first | exact endA | refine wkP ?_ | refine opB (fun b => ?_) | refine opA (fun a' c' hc1 hc2 => ?_) | (apply GJ.and; exact rfl; intro hg) | (apply GJ.or; exact rfl; intro hg))
  refine dwidth_ok hq ?_
  rw [f2]
  repeat (first | exact endA | refine wkP ?_ | refine opB (fun b => ?_) | refine opA (fun a' c' hc1 hc2 => ?_) | (apply GJ.and; exact rfl; intro hg) | (apply GJ.or; exact rfl; intro hg))
  refine OpOk.bytesConst rfl rfl rfl rfl (fun ro5 hl5 hr5 => ?_)
  have hq := hq.le hl5
  repeat (first | exact endA | refine wkP ?_ | refine opB (fun b => ?_) | refine opA (fun a' c' hc1 hc2 => ?_) | (apply GJ.and; exact rfl; intro hg) | (apply GJ.or; exact rfl; intro hg))
  refine dmatch_ok (tx := [97, 97, 98]) hq ho hr5.rds rfl ?_
  rw [f3]
  repeat (first | exact endA | refine wkP ?_ | refine opB (fun b => ?_) | refine opA (fun a' c' hc1 hc2 => ?_) | (apply GJ.and; exact rfl; intro hg) | (apply GJ.or; exact rfl; intro hg))
  refine OpOk.bytesConst rfl rfl rfl rfl (fun ro6 hl6 hr6 => ?_)
  have hq := hq.le hl6
  repeat (first | exact endA | refine wkP ?_ | refine opB (fun b => ?_) | refine opA (fun a' c' hc1 hc2 => ?_) | (apply GJ.and; exact rfl; intro hg) | (apply GJ.or; exact rfl; intro hg))
  refine dmatch_ok (tx := [97, 97, 98, 98]) hq ho hr6.rds rfl ?_
  rw [f4]
  repeat (first | exact endA | refine wkP ?_ | refine opB (fun b => ?_) | refine opA (fun a' c' hc1 hc2 => ?_) | (apply GJ.and; exact rfl; intro hg) | (apply GJ.or; exact rfl; intro hg))
  refine dstep_ok (c := 98) hq ho (by decide) ?_
  rw [f5]
  repeat (first | exact endA | refine wkP ?_ | refine opB (fun b => ?_) | refine opA (fun a' c' hc1 hc2 => ?_) | (apply GJ.and; exact rfl; intro hg) | (apply GJ.or; exact rfl; intro hg))
  refine dstep_ok (c := 97) hq ho (by decide) ?_
  rw [f6]
  repeat (first | exact endA | refine wkP ?_ | refine opB (fun b => ?_) | refine opA (fun a' c' hc1 hc2 => ?_) | (apply GJ.and; exact rfl; intro hg) | (apply GJ.or; exact rfl; intro hg))
  refine dends_ok hq ?_
  rw [f7]
  repeat (first | exact endA | refine wkP ?_ | refine opB (fun b => ?_) | refine opA (fun a' c' hc1 hc2 => ?_) | (apply GJ.and; exact rfl; intro hg) | (apply GJ.or; exact rfl; intro hg))
  refine dends_ok hq ?_
  rw [f8]
  repeat (first | exact endA | refine wkP ?_ | refine opB (fun b => ?_) | refine opA (fun a' c' hc1 hc2 => ?_) | (apply GJ.and; exact rfl; intro hg) | (apply GJ.or; exact rfl; intro hg))
  exact Wk.outS Sup.auto (.refl _) (hk ro6 ((((hl2.trans hl3).trans hl4).trans hl5).trans hl6))
end
end Go.Proofs.YtinbmhbfcoiefaaGreatDoor
end
section
/- The law DfaMatches, walked. -/
namespace Go.Proofs.YtinbmhbfcoiefaaGreatDoor
open Go Go.E
set_option linter.unusedVariables false
set_option linter.unusedSimpArgs false
set_option maxRecDepth 10000
section
variable {P : Program} {T : TT} [hT : TTab P T] {ty : TypeId} {env : Env} {ro : Ro} {own : Chs} {K : Value → Ro → Chs → Prop}
end
section
variable {ro : Ro} {own r : Chs} {K : Value → Ro → Chs → Prop} {g : Chunk → Chs}
theorem dmatches_law {n : RgD} {v : List Value} {tx : List UInt8} {ab : Option Addr} {nb cb : Nat} (ht : TabOk ro) (hv : RgOk ro n v) (hb : Bys ro ab nb cb tx) (hk : K (.bool true) ro own) : CallOk Tryz.prog 3 #[.agg v.toArray, .slice ab nb cb] ro own K := by
  refine CallOk.back ?_
  have hin := rg_ins hv
  obtain ⟨a1, c1, hvc⟩ := hv.cells
  have hv0 := hv
  subst hvc
  have hmx := hb.max
  have hncl := hb.le
  unfold maxLen at hmx
  have hnb := hb.n1
  obtain rfl : tx.length = nb := by simpa using hnb
  refine CallOk.intro (args := [_, _]) (rs := [_]) T_ok Tryz.func3 Tryz.call3 rfl rfl (by kernel_rfl) rfl rfl ?_
  repeat (first | exact endA | refine wkP ?_ | refine opB (fun b => ?_) | refine opA (fun a' c' hc1 hc2 => ?_) | (apply GJ.and; exact rfl; intro hg) | (apply GJ.or; exact rfl; intro hg))
  refine makes08_ok ht (fun ro1 hl1 => ?_)
  repeat (first | exact endA | refine wkP ?_ | refine opB (fun b => ?_) | refine opA (fun a' c' hc1 hc2 => ?_) | (apply GJ.and; exact rfl; intro hg) | (apply GJ.or; exact rfl; intro hg))
  refine dmade_ok (ht.le hl1) (hv0.le hl1) (fun ro2 hl2 hn => ?_) (fun ro2 p q hl2 hm hp hq => ?_)
  · repeat (first | exact endA | refine wkP ?_ | refine opB (fun b => ?_) | refine opA (fun a' c' hc1 hc2 => ?_) | (apply GJ.and; exact rfl; intro hg) | (apply GJ.or; exact rfl; intro hg))
    exact Wk.back1 Sup.auto (.refl _) hk
  obtain ⟨h1, h2, h3⟩ := hm
  have hK := make_k hin
  obtain ⟨hw, hsl⟩ := make_size h2
  have hm := (made_a2 hK.ok.to hK.sets h3).1
  obtain ⟨w, hw6, ho, hs⟩ := hm.ok
  obtain ⟨⟨w2, hw7, ho2, hs2, _⟩, _⟩ := hm.least.1
  obtain ⟨r1, r2⟩ := dfa_ref hw hK.sets h2 h3 tx
  have hq2 : DAt ro2 q (leastA (makeA (makeN n).2).2) := hq
  clear hq
  generalize leastA (makeA (makeN n).2).2 = D2 at *
  generalize (makeA (makeN n).2).2 = D1 at *
  clear hs2 hm hs
  by_cases h30 : 30 < tx.length
  · repeat (first | exact endA | refine wkP ?_ | refine opB (fun b => ?_) | refine opA (fun a' c' hc1 hc2 => ?_) | (apply GJ.and; exact rfl; intro hg) | (apply GJ.or; exact rfl; intro hg))
    exact Wk.back1 Sup.auto (.refl _) hk
  repeat (first | exact endA | refine wkP ?_ | refine opB (fun b => ?_) | refine opA (fun a' c' hc1 hc2 => ?_) | (apply GJ.and; exact rfl; intro hg) | (apply GJ.or; exact rfl; intro hg))
  refine rmatch_ok ((hv0.le hl1).le hl2) hw hb.up (by omega) (fun ro3 hl3 => ?_)
  generalize refM n tx = B at *
  repeat (first | exact endA | refine wkP ?_ | refine opB (fun b => ?_) | refine opA (fun a' c' hc1 hc2 => ?_) | (apply GJ.and; exact rfl; intro hg) | (apply GJ.or; exact rfl; intro hg))
  refine dmatch_ok (tx := tx) (hp.le hl3) ho hb.rds rfl ?_
  rw [r1]
  repeat (first | exact endA | refine wkP ?_ | refine opB (fun b => ?_) | refine opA (fun a' c' hc1 hc2 => ?_) | (apply GJ.and; exact rfl; intro hg) | (apply GJ.or; exact rfl; intro hg))
  refine dmatch_ok (tx := tx) (hq2.le hl3) ho2 hb.rds rfl ?_
  rw [r2]
  repeat (first | exact endA | refine wkP ?_ | refine opB (fun b => ?_) | refine opA (fun a' c' hc1 hc2 => ?_) | (apply GJ.and; exact rfl; intro hg) | (apply GJ.or; exact rfl; intro hg))
  rw [show (decide (B = B) && decide (B = B)) = true by simp]
  exact Wk.back1 Sup.auto (.refl _) hk
end
end Go.Proofs.YtinbmhbfcoiefaaGreatDoor
end
