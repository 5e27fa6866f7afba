/- Contracts of nfa: Make. -/
import Derived.Test.YtkpdnpcmeadggaaNa3
import Derived.Test.YtkpdnpcmeadggaaRgU
namespace Go.E
open Go
theorem Sup.app {l l' : Chs} : ∀ (G : Chs), Sup l l' → Sup (G ++ l) l'
  | [], h => h
  | c :: G, h => Sup.drop _ (Sup.app G h)
theorem Wk.freezeL {k : Kt} {env : Env} : ∀ {l : Chs} {own rest : Chs} {ro : Ro}, own.Perm (l ++ rest) → (∀ ro', Le ro ro' → (∀ c ∈ l, c.holds ro') → Wk k env ro' rest) → Wk k env ro own
  | [], ow, rest, ro, hp, h => .perm hp (h ro (Le.refl _) (by simp))
  | c :: l, ow, rest, ro, hp, h => by
    refine .perm hp (.freeze (c := c) (own' := l ++ rest) (.hit _ _) (fun r1 h1 h2 => ?_))
    refine Wk.freezeL (.refl _) (fun r2 h3 h4 => h r2 (h1.trans h3) (fun d hd => ?_))
    simp at hd
    rcases hd with rfl | hd
    · exact h2.le h3
    · exact h4 d hd
end Go.E
namespace Go.Proofs.Ytkpdnpcmeadggaa
open Go Go.E
set_option linter.unusedVariables false
set_option linter.unusedSimpArgs false
set_option maxRecDepth 10000
/-- How an automaton lies in memory. -/
structure RowsOk (ro : Ro) (R : RowsN) (hs : List Value) : Prop where
  len : hs.length = R.length
  row : ∀ (i : Nat) (row : List EdgeD), R[i]? = some row → ∃ (ad : Option Addr) (cp : Nat), hs[i]? = some (Value.slice ad row.length cp) ∧ Rs ro ad row.length cp 6 (edgesV row)
def AutoOk (ro : Ro) (a : NfaD) (v : List Value) : Prop :=
  ∃ (ad : Option Addr) (cp : Nat) (hs : List Value), v = [Value.slice ad a.rows.length cp, .int .i64 a.last] ∧ Rs ro ad a.rows.length cp 1 hs ∧ RowsOk ro a.rows hs
theorem AutoOk.nil (ro : Ro) : AutoOk ro nilN [Value.slice none 0 0, .int .i64 0] := ⟨none, 0, [], rfl, Rs.nil _ _, rfl, fun i row h => by simp [nilN] at h⟩
theorem RowsOk.ofM {ro : Ro} {R : List RowM} (h : ∀ c ∈ R.map rowC, c.holds ro) : RowsOk ro (rowsOf R) (R.map hdrV) :=
  ⟨by simp [rowsOf], fun i row hr => by
    unfold rowsOf at hr
    rw [List.getElem?_map] at hr
    cases hx : R[i]? with
    | none => rw [hx] at hr; cases hr
    | some x =>
      rw [hx] at hr
      cases hr
      refine ⟨x.1.1, x.1.2, by rw [List.getElem?_map, hx]; rfl, Rs.last (h _ (List.mem_map.2 ⟨x, List.mem_of_getElem? hx, rfl⟩))⟩⟩
theorem mk_rows (q : Nat) (a : Option Addr) (c : Nat) (e : Int) (full : Bool) (R : List RowM) (r : Chs) : (mkC q a c e full R r).Perm ((.sl a R.length c 63 1 (R.map hdrV) :: R.map rowC) ++ (.blk q 57 [.slice a R.length c, .int .i64 e, .bool full] :: r)) := by
  unfold mkC
  refine (List.Perm.swap _ _ _).trans ?_
  rw [List.cons_append]
  refine List.Perm.cons _ ?_
  exact List.perm_middle.symm
mutual
theorem check_zero : ∀ (n : RgD) (M : Int), (checkD n M).1 = 0 → wrongD n = 0 ∧ (sizeD n : Int) ≤ M ∧ (checkD n M).2 = M - sizeD n
  | .mk k s l a b, M, h => by
    rw [checkD] at h ⊢
    split at h
    · cases h
    rename_i h0
    rw [if_neg h0]
    split at h
    · rename_i h1; exact absurd h h1
    rename_i h1
    rw [if_neg h1]
    have h1 : formD (.mk k s l a b) = 0 := by simpa using h1
    rw [wrongD, if_neg (by rw [h1]; decide), sizeD]
    split at h
    · rename_i h2
      rw [if_pos h2]
      have hl : l = [] := by
        cases form_cases h1 with
        | none => rfl
        | one => rfl
        | cat => exact absurd h2 (by decide)
        | alt => exact absurd h2 (by decide)
        | rep => exact absurd h2 (by decide)
      subst hl
      rw [wrongK, sizeK]
      exact ⟨rfl, by omega, by dsimp only; omega⟩
    · rename_i h2
      rw [if_neg h2]
      obtain ⟨h3, h4, h5⟩ := checkK_zero l (M - 1) (by omega) h
      exact ⟨h3, by omega, by omega⟩
theorem checkK_zero : ∀ (l : List RgD) (M : Int), 0 ≤ M → (checkK l M).1 = 0 → wrongK l = 0 ∧ (sizeK l : Int) ≤ M ∧ (checkK l M).2 = M - sizeK l
  | [], M, hM, _ => by rw [checkK, wrongK, sizeK]; exact ⟨rfl, by omega, by simp⟩
  | x :: r, M, hM, h => by
    rw [checkK] at h ⊢
    split at h
    · rename_i h1; exact absurd h h1
    rename_i h1
    rw [if_neg h1]
    obtain ⟨h3, h4, h5⟩ := check_zero x M (by simpa using h1)
    obtain ⟨h6, h7, h8⟩ := checkK_zero r _ (by omega) h
    rw [wrongK, if_neg (by rw [h3]; decide), sizeK]
    exact ⟨h6, by omega, by omega⟩
end

section
variable {ro : Ro} {own r : Chs} {K : Value → Ro → Chs → Prop} {g : Chunk → Chs}
theorem bud_st0 {n : RgD} (h : (checkD n 512).1 = 0) : budN st0 + 4 * sizeD n ≤ 900000 := by
  have := (check_zero n 512 h).2.1
  have h0 : budN st0 = 4 * 4095 := by decide
  omega
set_option maxHeartbeats 4000000 in
theorem nmake_ok {n : RgD} {v : List Value} (hv : RgOk ro n v) 
    (hk : ∀ ro' v', Le ro ro' → AutoOk ro' (makeN n).2 v' → K (.tuple #[.agg v'.toArray, .int .i64 ((makeN n).1 : Int)]) ro' own) :
    CallOk Try.prog 8 #[.agg v.toArray] ro own K := by
  obtain ⟨a1, c1, hvc⟩ := hv.cells
  rw [hvc] at hv ⊢
  unfold makeN at hk
  refine CallOk.intro (args := [_]) (rs := [_, _]) T_ok Try.func8 Try.call8 rfl rfl (by kernel_rfl) rfl rfl ?_
  repeat (first
    | (show _ ∧ _; exact ⟨rfl, rfl, rfl⟩)
    | refine wkP ?_
    | (show OpOk _ _ _ _ _ _ _; first | refine opB (fun b => ?_) | refine opA (fun a' c' hc1 hc2 => ?_))
    | (show GJ _ _ _ _ _ _ _; first | (apply GJ.and; exact rfl; intro hg) | (apply GJ.or; exact rfl; intro hg)))
  obtain ⟨bX, hbX⟩ : ∃ z : Nat, z = b := ⟨_, rfl⟩
  subst hbX
  refine rcheck_ok hv ?_
  by_cases hc : (checkD n 512).1 = 0
  · rw [if_neg (by rw [hc]; decide)] at hk
    rw [hc]
    have hw := (check_zero n 512 hc).1
    have hbs := bud_st0 hc
    have m := made_node n hw 0 st0 st0_ok (by decide)
    have e0 : stateN (stM [] false) = (0, st0) := rfl
    repeat (first
      | (show _ ∧ _; exact ⟨rfl, rfl, rfl⟩)
      | refine wkP ?_
      | (show OpOk _ _ _ _ _ _ _; first | refine opB (fun b => ?_) | refine opA (fun a' c' hc1 hc2 => ?_))
      | (show GJ _ _ _ _ _ _ _; first | (apply GJ.and; exact rfl; intro hg) | (apply GJ.or; exact rfl; intro hg)))
    obtain ⟨bM, hbM⟩ : ∃ z : Nat, z = b := ⟨_, rfl⟩
    subst hbM
    obtain ⟨bN, hbN⟩ : ∃ z : Nat, z = b := ⟨_, rfl⟩
    refine CallOk.sup (own0 := .sl none 0 0 63 1 [] :: .blk bM 57 [.slice none 0 0, .int .i64 0, .bool false] :: .blk bX 34 [.slice none 0 0, .int .i64 0] :: .blk b 26 (nodeV n.kind n.set a1 n.kids.length c1 n.min n.max) :: own) (Sup.nilc (Sup.all _)) ?_
    refine CallOk.perm (List.Perm.swap _ _ _) ?_
    refine nstate_ok (R := []) (full := false) (a := none) (c := 0) (e := 0) (r := .blk bX 34 [.slice none 0 0, .int .i64 0] :: .blk b 26 (nodeV n.kind n.set a1 n.kids.length c1 n.min n.max) :: own) (by decide) (fun a2 c2 R2 h2 => ?_)
    have e1 : stateN ⟨rowsOf [], false⟩ = (0, st0) := rfl
    rw [e1] at h2 ⊢
    have h2 : stM R2 st0.full = st0 := stM_eq h2
    have f2 : st0.full = false := rfl
    rw [f2] at h2
    have l2 : R2.length = st0.rows.length := by rw [← h2, stM_len]
    rw [f2]
    dsimp only
    repeat (first
      | (show _ ∧ _; exact ⟨rfl, rfl, rfl⟩)
      | refine wkP ?_
      | (show OpOk _ _ _ _ _ _ _; first | refine opB (fun b => ?_) | refine opA (fun a' c' hc1 hc2 => ?_))
      | (show GJ _ _ _ _ _ _ _; first | (apply GJ.and; exact rfl; intro hg) | (apply GJ.or; exact rfl; intro hg)))
    refine (nodeC n).run hv hw (by rw [h2]; exact st0_ok) (by rw [l2]; decide) (.inr (by rw [h2]; exact hbs)) (fun a3 c3 R3 h3 => ?_)
    rw [h2] at h3 ⊢
    generalize nodeN n 0 st0 = p at *
    obtain ⟨p1, p2, pf⟩ := p
    dsimp only at *
    cases pf with
    | true =>
      rw [if_pos rfl] at hk
      repeat (first
        | (show _ ∧ _; exact ⟨rfl, rfl, rfl⟩)
        | refine wkP ?_
        | (show OpOk _ _ _ _ _ _ _; first | refine opB (fun b => ?_) | refine opA (fun a' c' hc1 hc2 => ?_))
        | (show GJ _ _ _ _ _ _ _; first | (apply GJ.and; exact rfl; intro hg) | (apply GJ.or; exact rfl; intro hg)))
      exact Wk.outS (Sup.drop _ (Sup.drop _ (Sup.app _ (Sup.drop _ (Sup.drop _ (Sup.all _)))))) (.refl _) (hk ro _ (Le.refl _) (AutoOk.nil _))
    | false =>
      rw [if_neg (by decide)] at hk
      unfold mkC
      repeat (first
        | (show _ ∧ _; exact ⟨rfl, rfl, rfl⟩)
        | refine wkP ?_
        | (show OpOk _ _ _ _ _ _ _; first | refine opB (fun b => ?_) | refine opA (fun a' c' hc1 hc2 => ?_))
        | (show GJ _ _ _ _ _ _ _; first | (apply GJ.and; exact rfl; intro hg) | (apply GJ.or; exact rfl; intro hg)))
      refine Wk.freezeL (mk_rows _ _ _ _ _ _ _) (fun ro2 hl2 hc2 => ?_)
      have hr2 := RowsOk.ofM (R := R3) (fun c hc => hc2 c (List.mem_cons_of_mem _ hc))
      have hs2 := Rs.last (hc2 _ (List.mem_cons_self ..))
      have e3 : R3.length = p2.length := by rw [← h3]; simp [rowsOf]
      rw [h3] at hr2
      rw [e3] at hs2 ⊢
      exact Wk.outS Sup.auto (.refl _) (hk ro2 _ hl2 ⟨_, _, _, rfl, hs2, hr2⟩)
  · rw [if_pos hc] at hk
    repeat (first
      | (show _ ∧ _; exact ⟨rfl, rfl, rfl⟩)
      | refine wkP ?_
      | (show OpOk _ _ _ _ _ _ _; first | refine opB (fun b => ?_) | refine opA (fun a' c' hc1 hc2 => ?_))
      | (show GJ _ _ _ _ _ _ _; first | (apply GJ.and; exact rfl; intro hg) | (apply GJ.or; exact rfl; intro hg)))
    exact Wk.outS Sup.auto (.refl _) (hk ro _ (Le.refl _) (AutoOk.nil _))
end
end Go.Proofs.Ytkpdnpcmeadggaa
