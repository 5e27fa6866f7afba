/- Contracts of nfa: state, edge. -/
import Derived.Test.YtkpdnpcmeadggaaNa1
namespace Go.Proofs.Ytkpdnpcmeadggaa
open Go Go.E
set_option linter.unusedVariables false
set_option linter.unusedSimpArgs false
set_option maxRecDepth 10000
section
variable {ro : Ro} {own r : Chs} {K : Value → Ro → Chs → Prop} {g : Chunk → Chs}
theorem rows_snoc (R : List RowM) (r : Chs) : ((.sl none 0 0 66 6 [] : Chunk) :: (R.map rowC ++ r)).Perm ((R ++ [((none, 0), [])]).map rowC ++ r) := by
  rw [List.map_append, List.append_assoc]
  exact List.perm_middle.symm
theorem nstate_ok {q c : Nat} {a : Option Addr} {e : Int} {full : Bool} {R : List RowM} (hR : R.length ≤ 4096)
    (hk : ∀ a' c' R', rowsOf R' = (stateN ⟨rowsOf R, full⟩).2.rows → K (.int .i64 ((stateN ⟨rowsOf R, full⟩).1 : Int)) ro (mkC q a' c' e (stateN ⟨rowsOf R, full⟩).2.full R' r)) :
    CallOk Try.prog 20 #[ptr' q] ro (mkC q a c e full R r) K := by
  have hlen : (rowsOf R).length = R.length := by simp [rowsOf]
  have hL : (R.map hdrV).length = R.length := by simp
  unfold stateN at hk
  dsimp only at hk
  rw [hlen] at hk
  unfold mkC
  by_cases h : R.length = 4096
  · rw [if_pos h] at hk
    refine CallOk.intro (args := [_]) (rs := [_]) T_ok Try.func20 Try.call20 rfl rfl (by kernel_rfl) rfl rfl ?_
    repeat (first
      | (show _ ∧ _; exact ⟨rfl, rfl, rfl⟩)
      | refine wkP ?_
      | (show OpOk _ _ _ _ _ _ _; first | refine opB (fun b => ?_) | refine opA (fun a' c' hc1 hc2 => ?_))
      | (show GJ _ _ _ _ _ _ _; first | (apply GJ.and; exact rfl; intro hg) | (apply GJ.or; exact rfl; intro hg)))
    exact Wk.outS Sup.auto (.refl _) (hk a c R rfl)
  · rw [if_neg h] at hk
    refine CallOk.intro (args := [_]) (rs := [_]) T_ok Try.func20 Try.call20 rfl rfl (by kernel_rfl) rfl rfl ?_
    repeat (first
      | (show _ ∧ _; exact ⟨rfl, rfl, rfl⟩)
      | refine wkP ?_
      | (show OpOk _ _ _ _ _ _ _; first | refine opB (fun b => ?_) | refine opA (fun a' c' hc1 hc2 => ?_))
      | (show GJ _ _ _ _ _ _ _; first | (apply GJ.and; exact rfl; intro hg) | (apply GJ.or; exact rfl; intro hg)))
    have hk2 := hk a' c' (R ++ [((none, 0), [])]) (by simp [rowsOf])
    unfold mkC at hk2
    rw [List.length_append, List.map_append, show ([((none, 0), [])] : List RowM).length = 1 from rfl] at hk2
    dsimp only at hk2
    refine Wk.outE (own1 := .sl none 0 0 66 6 [] :: .blk q 57 [.slice a' (R.length + 1) c', .int .i64 e, .bool full] :: .sl a' (R.length + 1) c' 63 1 (R.map hdrV ++ [.slice none 0 0]) :: (R.map rowC ++ r)) (Sup.nilc (Sup.all _)) ?_ hk2 (congrArg (Value.int .i64) (by omega))
    exact (List.Perm.swap _ _ _).trans (((List.Perm.swap _ _ _).trans ((rows_snoc R r).cons _)).cons _)
theorem nedge_ok {q c : Nat} {a : Option Addr} {e : Int} {full : Bool} {R : List RowM} {f : Nat} {x : EdgeD} {row : RowM} (hf : R[f]? = some row) (hl : row.2.length ≤ 1000000) (hR : R.length ≤ 4096)
    (hk : ∀ R', rowsOf R' = (edgeN f x ⟨rowsOf R, full⟩).rows → R'.length = R.length → K (.tuple #[]) ro (mkC q a c e full R' r)) :
    CallOk Try.prog 31 #[ptr' q, .int .i64 (f : Int), .agg (edgeV x).toArray] ro (mkC q a c e full R r) K := by
  have hL : (R.map hdrV).length = R.length := by simp
  have hfl := (List.getElem?_eq_some_iff.1 hf).1
  have hE := edgesV_len row.2
  have hgf : (R.map hdrV)[f]? = some (hdrV row) := by rw [List.getElem?_map, hf]; rfl
  obtain ⟨⟨ra, rc⟩, rl⟩ := row
  unfold mkC
  refine CallOk.perm (((rows_split hf r).cons _).cons _) ?_
  unfold rowC hdrV at *
  dsimp only at *
  have hrow : R[((f : Nat) : Int).toNat]! = ((ra, rc), rl) := by rw [Int.toNat_natCast, getElem!_def, hf]
  have hfl2 : flat [Value.agg (Value.agg (edgeV x).toArray).cells.toList.toArray] = edgeV x := by show _ ++ [] = _; rw [List.append_nil]; rfl
  refine CallOk.intro (args := [_, _, _]) (rs := []) T_ok Try.func31 Try.call31 rfl rfl (by kernel_rfl) rfl rfl ?_
  repeat (first
    | (show _ ∧ _; exact ⟨rfl, rfl, rfl⟩)
    | refine wkT ?_
    | (show OpOk _ _ _ _ _ _ _; first | refine opB (fun b => ?_) | refine opA (fun a' c' hc1 hc2 => ?_))
    | (show GJ _ _ _ _ _ _ _; first | (apply GJ.and; exact rfl; intro hg) | (apply GJ.or; exact rfl; intro hg)))
  obtain ⟨bx, hbx⟩ : ∃ z : Nat, z = b := ⟨_, rfl⟩
  subst hbx
  refine Bs.mk ⟨[.blk bx 66 (Value.agg (edgeV x).toArray).cells.toList, .blk q 57 [.slice a R.length c, .int .i64 e, .bool full], .sl a R.length c 63 1 (R.map fun r => .slice r.1.1 r.2.length r.1.2)], Sup.auto, ?_⟩
  repeat (first
    | (show _ ∧ _; exact ⟨rfl, rfl, rfl⟩)
    | refine wkU ?_
    | (show QOk _ _ _ _ _ _ _; refine QOk.build rfl rfl Nf.auto ?_)
    | (show GJ _ _ _ _ _ _ _; first | with_reducible refine GJ.neF ?_ | with_reducible refine GJ.neT ?_)
    | (show Br _ _ _; with_reducible refine Br.ne ?_)
    | (show OpOk _ _ _ _ _ _ _; first | refine opB (fun b => ?_) | refine opA (fun a' c' hc1 hc2 => ?_))
    | (show GJ _ _ _ _ _ _ _; first | (apply GJ.and; exact rfl; intro hg) | (apply GJ.or; exact rfl; intro hg)))
  rw [hrow]
  dsimp only
  repeat (first
    | (show _ ∧ _; exact ⟨rfl, rfl, rfl⟩)
    | refine wkU ?_
    | (show QOk _ _ _ _ _ _ _; refine QOk.build rfl rfl Nf.auto ?_)
    | (show GJ _ _ _ _ _ _ _; first | with_reducible refine GJ.neF ?_ | with_reducible refine GJ.neT ?_)
    | (show Br _ _ _; with_reducible refine Br.ne ?_)
    | (show OpOk _ _ _ _ _ _ _; first | refine opB (fun b => ?_) | refine opA (fun a' c' hc1 hc2 => ?_))
    | (show GJ _ _ _ _ _ _ _; first | (apply GJ.and; exact rfl; intro hg) | (apply GJ.or; exact rfl; intro hg)))
  rw [Int.toNat_natCast]
  refine OpOk.storeSl (k := f) rfl rfl rfl rfl (by rw [hL]; exact hfl) ?_
  repeat (first
    | (show _ ∧ _; exact ⟨rfl, rfl, rfl⟩)
    | refine wkU ?_
    | (show QOk _ _ _ _ _ _ _; refine QOk.build rfl rfl Nf.auto ?_)
    | (show GJ _ _ _ _ _ _ _; first | with_reducible refine GJ.neF ?_ | with_reducible refine GJ.neT ?_)
    | (show Br _ _ _; with_reducible refine Br.ne ?_)
    | (show OpOk _ _ _ _ _ _ _; first | refine opB (fun b => ?_) | refine opA (fun a' c' hc1 hc2 => ?_))
    | (show GJ _ _ _ _ _ _ _; first | (apply GJ.and; exact rfl; intro hg) | (apply GJ.or; exact rfl; intro hg)))
  rw [hfl2, ← edgesV_snoc, show rl.length + 1 = (rl ++ [x]).length by simp]
  have hk2 := hk (R.set f ((a', c'), rl ++ [x])) (rowsOf_set hf (a', c') x full) (by simp)
  unfold mkC at hk2
  rw [List.length_set, List.map_set] at hk2
  refine Wk.outS (own1 := .blk q 57 [.slice a R.length c, .int .i64 e, .bool full] :: .sl a R.length c 63 1 ((R.map hdrV).set f (hdrV ((a', c'), rl ++ [x]))) :: rowC ((a', c'), rl ++ [x]) :: ((R.take f ++ R.drop (f + 1)).map rowC ++ r)) (Sup.drop _ (Sup.all _)) (((rows_join hfl ((a', c'), rl ++ [x]) r).cons _).cons _) hk2
end
end Go.Proofs.Ytkpdnpcmeadggaa
