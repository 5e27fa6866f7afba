/- Merged of: NaA NaB NaD. Contracts of nfa: Sets. -/
import Derived.Test.YtkpdnpcmeadggaaNaP
import Derived.Test.YtkpdnpcmeadggaaEn7
/-! Contracts of nfa: Sets. -/
namespace Go.E
open Go
theorem keyLits_u64 {P : Program} {t : TypeId} (d : Nat) (hu : P.underlying t = some (.int .u64)) {z : Int} (h0 : 0 ≤ z) (h1 : z ≤ 18446744073709551615) : P.keyLits (d + 1) t [.int .u64 z] = some [.int .u64 z] := by
  unfold Program.keyLits
  rw [hu]
  dsimp only
  rw [if_pos ⟨rfl, by simp only [Lit.wf, Bool.and_eq_true, decide_eq_true_iff]; exact ⟨h0, h1⟩⟩]
theorem keyLits_four {P : Program} {k e : TypeId} (d : Nat) (hk : P.underlying k = some (.array 4 e)) (he : P.underlying e = some (.int .u64)) (c1 : P.cellsOf e = 1) (c4 : P.cellsOf k = 4) {w x y z : Int} (hw : 0 ≤ w ∧ w ≤ 18446744073709551615) (hx : 0 ≤ x ∧ x ≤ 18446744073709551615) (hy : 0 ≤ y ∧ y ≤ 18446744073709551615) (hz : 0 ≤ z ∧ z ≤ 18446744073709551615) :
    P.keyLits (d + 1 + 1) k [.int .u64 w, .int .u64 x, .int .u64 y, .int .u64 z] = some [.int .u64 w, .int .u64 x, .int .u64 y, .int .u64 z] := by
  unfold Program.keyLits
  rw [hk]
  dsimp only
  rw [if_pos (by rw [c4]; rfl), c1, show List.range 4 = [0, 1, 2, 3] from rfl]
  have e1 := keyLits_u64 d he hw.1 hw.2
  have e2 := keyLits_u64 d he hx.1 hx.2
  have e3 := keyLits_u64 d he hy.1 hy.2
  have e4 := keyLits_u64 d he hz.1 hz.2
  simp [List.mapM_cons, e1, e2, e3, e4]
end Go.E
namespace Go.Proofs.Ytkpdnpcmeadggaa
open Go Go.E
set_option linter.unusedVariables false
set_option linter.unusedSimpArgs false
set_option maxRecDepth 10000
def setKV (s : SetD) : Value := .agg (setV s).toArray
theorem set_enc : KeyEnc Try.prog 64 setKV SetIn where
  law := deep_law_gate (by kernel_rfl) (by decide +kernel) (by decide +kernel) (by kernel_rfl) (by kernel_rfl)
  is s h := by
    have b : ∀ k, (0 : Int) ≤ (s.w k : Int) ∧ (s.w k : Int) ≤ 18446744073709551615 := fun k => ⟨Int.natCast_nonneg _, by have := h k; omega⟩
    have hu : Try.prog.underlying 64 = some (.array 4 22) := by kernel_rfl
    have he : Try.prog.underlying 22 = some (.int .u64) := by kernel_rfl
    have c1 : Try.prog.cellsOf 22 = 1 := by kernel_rfl
    have c4 : Try.prog.cellsOf 64 = 4 := by kernel_rfl
    obtain ⟨d, hd⟩ : ∃ d, Try.prog.types.size + 1 = d + 1 + 1 := ⟨Try.prog.types.size - 1, by
      have : 0 < Try.prog.types.size := by decide +kernel
      omega⟩
    have hl := keyLits_four d hu he c1 c4 (b 0) (b 1) (b 2) (b 3)
    rw [← hd] at hl
    unfold keyOf
    rw [hu]
    dsimp only
    rw [if_pos (by
      rw [Bool.and_eq_true]
      refine ⟨by kernel_rfl, ?_⟩
      show Value.formed _ _ (.agg _) = true
      unfold Value.formed
      rw [hu]
      dsimp only
      rw [c4]; rfl)]
    rw [show (setKV s).cells.toList = [.int .u64 (s.w 0 : Int), .int .u64 (s.w 1 : Int), .int .u64 (s.w 2 : Int), .int .u64 (s.w 3 : Int)] from rfl, hl]
    exact ⟨_, rfl⟩
  inj a b h := by
    obtain ⟨a1, a2, a3, a4⟩ := a
    obtain ⟨b1, b2, b3, b4⟩ := b
    simp only [setKV, setV, wV] at h
    simp at h
    simp; omega
theorem adds_len : ∀ (l : List EdgeD) (o : List SetD), (l.foldl addS o).length ≤ o.length + l.length
  | [], o => Nat.le_refl _
  | x :: l, o => by
    have := adds_len l (addS o x)
    rw [List.foldl_cons, List.length_cons]
    have h2 : (addS o x).length ≤ o.length + 1 := by
      unfold addS
      split
      · omega
      · simp
    omega
def rowS (o : List SetD) (l : List EdgeD) : List SetD := l.foldl addS o
/-- The marks that stand for the sets found. -/
def MarkS (o : List SetD) (M : List (SetD × Bool × Nat)) : Prop := MapOk SetIn M ∧ ∀ s, getG M s = if s ∈ o then some true else none
theorem MarkS.nil : MarkS [] [] := ⟨MapOk.nil, fun s => by simp [getG]⟩
theorem MarkS.push {o : List SetD} {M : List (SetD × Bool × Nat)} (h : MarkS o M) {s : SetD} (hs : SetIn s) (c : Nat) : MarkS (o ++ [s]) (putG M c s true) := by
  refine ⟨h.1.put hs c true, fun t => ?_⟩
  rw [getG_putG, h.2 t]
  by_cases e : t = s
  · rw [if_pos e, if_pos (List.mem_append.2 (.inr (List.mem_singleton.2 e)))]
  · rw [if_neg e]
    by_cases h2 : t ∈ o
    · rw [if_pos h2, if_pos (List.mem_append.2 (.inl h2))]
    · rw [if_neg h2, if_neg (fun h => (List.mem_append.1 h).elim h2 (fun h3 => e (List.mem_singleton.1 h3)))]
theorem MarkS.is {o : List SetD} {M : List (SetD × Bool × Nat)} (h : MarkS o M) (s : SetD) : ((getG M s).map Value.bool).getD (.bool false) = .bool (decide (s ∈ o)) := by
  rw [h.2 s]
  by_cases e : s ∈ o
  · rw [if_pos e, decide_eq_true e]; rfl
  · rw [if_neg e, decide_eq_false e]; rfl
section
variable {ro : Ro} {own r : Chs} {K : Value → Ro → Chs → Prop} {g : Chunk → Chs}
set_option maxHeartbeats 4000000 in
theorem nsets_ok {a : NfaD} {v : List Value} (hv : AutoOk ro a v) (ha : AutoK a)
    (hk : ∀ a' c', (setsN a.rows).length ≤ c' → c' ≤ maxLen → K (.slice a' (setsN a.rows).length c') ro (.sl a' (setsN a.rows).length c' 64 4 (setsV (setsN a.rows)) :: own)) :
    CallOk Try.prog 18 #[.agg v.toArray] ro own K := by
  obtain ⟨ad, cp, hs, rfl, hrs, hrw⟩ := hv
  have hle := ha.ok.le
  have hmr := hrs.max
  have hncr := hrs.le
  unfold maxLen at hmr
  refine CallOk.intro (args := [_]) (rs := [_]) T_ok Try.func18 Try.call18 rfl rfl (by kernel_rfl) rfl rfl ?_
  repeat (first
    | (show _ ∧ _; exact ⟨rfl, rfl, rfl⟩)
    | refine wkP ?_
    | (show OpOk _ _ _ _ _ _ _; first | refine opB (fun b => ?_) | refine opA (fun a' c' hc1 hc2 => ?_))
    | (show GJ _ _ _ _ _ _ _; first | (apply GJ.and; exact rfl; intro hg) | (apply GJ.or; exact rfl; intro hg)))
  obtain ⟨b1, hb1⟩ : ∃ z : Nat, z = b := ⟨_, rfl⟩
  subst hb1
  refine OpOk.makeMapG (kv := setKV) (vv := Value.bool) (fun bM => ?_)
  repeat (first
    | (show _ ∧ _; exact ⟨rfl, rfl, rfl⟩)
    | refine wkP ?_
    | (show OpOk _ _ _ _ _ _ _; first | refine opB (fun b => ?_) | refine opA (fun a' c' hc1 hc2 => ?_))
    | (show GJ _ _ _ _ _ _ _; first | (apply GJ.and; exact rfl; intro hg) | (apply GJ.or; exact rfl; intro hg)))
  refine LoopOk.at (ι := Nat × List SetD × (Option Addr × Nat) × List (SetD × Bool × Nat) × Nat) Keep.auto (fun (i, o, (ao, co), M, cM) => [(13, .int .i64 (i : Int)), (4, .slice ao o.length co)]) (fun (i, o, (ao, co), M, cM) => .sl ao o.length co 64 4 (setsV o) :: .obj bM (mapG setKV Value.bool M cM) :: .blk b1 34 [.slice ad a.rows.length cp, .int .i64 a.last] :: own) (fun (i, o, (ao, co), M, cM) => i ≤ a.rows.length ∧ (a.rows.drop i).foldl rowS o = setsN a.rows ∧ MarkS o M ∧ (o.length ≤ co ∧ co ≤ maxLen) ∧ o.length + allE (a.rows.drop i) ≤ 900000) (fun (i, o, (ao, co), M, cM) => a.rows.length - i) (0, [], (none, 0), [], 0) ?_ Sub.auto Sup.auto ?_
  · exact ⟨Nat.zero_le _, rfl, MarkS.nil, ⟨Nat.le_refl _, Nat.zero_le _⟩, by have := ha.edges; simpa using this⟩
  rintro ⟨i, o, ⟨ao, co⟩, M, cM⟩ ⟨i1, i2, i3, i4, i5⟩
  dsimp only [List.cons_append, List.nil_append] at i1 i2 i3 i4 i5 ⊢
  by_cases hi : i < a.rows.length
  · obtain ⟨row, hrow⟩ : ∃ row, a.rows[i]? = some row := ⟨_, List.getElem?_eq_getElem hi⟩
    obtain ⟨ar, cr, hhs, hrr⟩ := hrw.row i row hrow
    have hrm := hrr.max
    have hrl := hrr.le
    unfold maxLen at hrm
    rw [dropN_cons hrow, List.foldl_cons] at i2
    have i5 : o.length + (row.length + allE (a.rows.drop (i + 1))) ≤ 900000 := by
      rw [dropN_cons hrow] at i5
      unfold allE at i5 ⊢
      simpa using i5
    repeat (first
      | (show _ ∧ _; exact ⟨rfl, rfl, rfl⟩)
      | refine wkP ?_
      | (show OpOk _ _ _ _ _ _ _; first | refine opB (fun b => ?_) | refine opA (fun a' c' hc1 hc2 => ?_))
      | (show GJ _ _ _ _ _ _ _; first | (apply GJ.and; exact rfl; intro hg) | (apply GJ.or; exact rfl; intro hg)))
    rw [Int.toNat_natCast]
    refine OpOk.load rfl rfl (Ld.rs hrs hhs) ?_
    repeat (first
      | (show _ ∧ _; exact ⟨rfl, rfl, rfl⟩)
      | refine wkP ?_
      | (show OpOk _ _ _ _ _ _ _; first | refine opB (fun b => ?_) | refine opA (fun a' c' hc1 hc2 => ?_))
      | (show GJ _ _ _ _ _ _ _; first | (apply GJ.and; exact rfl; intro hg) | (apply GJ.or; exact rfl; intro hg)))
    refine LoopOk.at (ι := Nat × List SetD × (Option Addr × Nat) × List (SetD × Bool × Nat) × Nat) Keep.auto (fun (j, o, (ao, co), M, cM) => [(19, .int .i64 (j : Int)), (4, .slice ao o.length co)]) (fun (j, o, (ao, co), M, cM) => .sl ao o.length co 64 4 (setsV o) :: .obj bM (mapG setKV Value.bool M cM) :: .blk b1 34 [.slice ad a.rows.length cp, .int .i64 a.last] :: own) (fun (j, o, (ao, co), M, cM) => j ≤ row.length ∧ (a.rows.drop (i + 1)).foldl rowS (rowS o (row.drop j)) = setsN a.rows ∧ MarkS o M ∧ (o.length ≤ co ∧ co ≤ maxLen) ∧ o.length + ((row.length - j) + allE (a.rows.drop (i + 1))) ≤ 900000) (fun (j, o, (ao, co), M, cM) => row.length - j) (0, o, (ao, co), M, cM) ?_ Sub.auto Sup.auto ?_
    · exact ⟨Nat.zero_le _, i2, i3, i4, i5⟩
    clear i2 i3 i4 i5
    rintro ⟨j, o, ⟨ao, co⟩, M, cM⟩ ⟨j1, j2, j3, j4, j5⟩
    dsimp only [List.cons_append, List.nil_append] at j1 j2 j3 j4 j5 ⊢
    by_cases hj : j < row.length
    · obtain ⟨x, hx⟩ : ∃ x, row[j]? = some x := ⟨_, List.getElem?_eq_getElem hj⟩
      have hlx := edgesV_drop row j x hx
      have hsi : x.free = false → SetIn x.set := fun hf => ha.sets _ (sets_mem.2 ⟨row, List.mem_of_getElem? hrow, x, List.mem_of_getElem? hx, hf, rfl⟩)
      rw [dropN_cons hx, rowS, List.foldl_cons] at j2
      have hadd : addS o x = if x.free = true ∨ x.set ∈ o then o else o ++ [x.set] := rfl
      obtain ⟨k2, ⟨s1, s2, s3, s4⟩, xf⟩ := x
      dsimp only [edgeV] at hlx hsi hadd
      repeat (first
        | (show _ ∧ _; exact ⟨rfl, rfl, rfl⟩)
        | refine wkP ?_
        | (show OpOk _ _ _ _ _ _ _; first | refine opB (fun b => ?_) | refine opA (fun a' c' hc1 hc2 => ?_))
        | (show GJ _ _ _ _ _ _ _; first | (apply GJ.and; exact rfl; intro hg) | (apply GJ.or; exact rfl; intro hg)))
      rw [Int.toNat_natCast]
      refine OpOk.loadRow rfl rfl (LdN.at hrr hlx) rfl ?_
      cases xf with
      | true =>
        rw [if_pos (.inl rfl)] at hadd
        rw [hadd] at j2
        repeat (first
          | (show _ ∧ _; exact ⟨rfl, rfl, rfl⟩)
          | refine wkP ?_
          | (show OpOk _ _ _ _ _ _ _; first | refine opB (fun b => ?_) | refine opA (fun a' c' hc1 hc2 => ?_))
          | (show GJ _ _ _ _ _ _ _; first | (apply GJ.and; exact rfl; intro hg) | (apply GJ.or; exact rfl; intro hg)))
        repeat (first
          | (show _ ∧ _; exact ⟨rfl, rfl, rfl⟩)
          | refine wkP ?_
          | (show OpOk _ _ _ _ _ _ _; first | refine opB (fun b => ?_) | refine opA (fun a' c' hc1 hc2 => ?_))
          | (show GJ _ _ _ _ _ _ _; first | (apply GJ.and; exact rfl; intro hg) | (apply GJ.or; exact rfl; intro hg)))
        refine Wk.id ⟨(j + 1, o, (ao, co), M, cM), ⟨rfl, ?_⟩, ?_, Sub.auto, Sup.auto⟩
        all_goals try dsimp only
        · exact ⟨by omega, j2, j3, j4, by omega⟩
        · omega
      | false =>
        have hsi := hsi rfl
        repeat (first
          | (show _ ∧ _; exact ⟨rfl, rfl, rfl⟩)
          | refine wkP ?_
          | (show OpOk _ _ _ _ _ _ _; first | refine opB (fun b => ?_) | refine opA (fun a' c' hc1 hc2 => ?_))
          | (show GJ _ _ _ _ _ _ _; first | (apply GJ.and; exact rfl; intro hg) | (apply GJ.or; exact rfl; intro hg)))
        refine OpOk.lookupG (et := 4) (kv := setKV) (vv := Value.bool) (k := ⟨s1, s2, s3, s4⟩) (z := .bool false) rfl rfl (by kernel_rfl) set_enc j3.1 hsi (by kernel_rfl) ?_
        rw [j3.is]
        by_cases hm : (⟨s1, s2, s3, s4⟩ : SetD) ∈ o
        · rw [if_pos (.inr hm)] at hadd
          rw [hadd] at j2
          rw [decide_eq_true hm]
          repeat (first
            | (show _ ∧ _; exact ⟨rfl, rfl, rfl⟩)
            | refine wkP ?_
            | (show OpOk _ _ _ _ _ _ _; first | refine opB (fun b => ?_) | refine opA (fun a' c' hc1 hc2 => ?_))
            | (show GJ _ _ _ _ _ _ _; first | (apply GJ.and; exact rfl; intro hg) | (apply GJ.or; exact rfl; intro hg)))
          repeat (first
            | (show _ ∧ _; exact ⟨rfl, rfl, rfl⟩)
            | refine wkP ?_
            | (show OpOk _ _ _ _ _ _ _; first | refine opB (fun b => ?_) | refine opA (fun a' c' hc1 hc2 => ?_))
            | (show GJ _ _ _ _ _ _ _; first | (apply GJ.and; exact rfl; intro hg) | (apply GJ.or; exact rfl; intro hg)))
          refine Wk.id ⟨(j + 1, o, (ao, co), M, cM), ⟨rfl, ?_⟩, ?_, Sub.auto, Sup.auto⟩
          all_goals try dsimp only
          · exact ⟨by omega, j2, j3, j4, by omega⟩
          · omega
        · rw [if_neg (fun h => h.elim (fun h => by cases h) hm)] at hadd
          rw [hadd] at j2
          rw [decide_eq_false hm]
          have hsl := setsV_len o
          have hsn := setsV_snoc o ⟨s1, s2, s3, s4⟩
          have hol : (o ++ [(⟨s1, s2, s3, s4⟩ : SetD)]).length = o.length + 1 := by simp
          repeat (first
            | (show _ ∧ _; exact ⟨rfl, rfl, rfl⟩)
            | refine wkP ?_
            | (show OpOk _ _ _ _ _ _ _; first | refine opB (fun b => ?_) | refine opA (fun a' c' hc1 hc2 => ?_))
            | (show GJ _ _ _ _ _ _ _; first | (apply GJ.and; exact rfl; intro hg) | (apply GJ.or; exact rfl; intro hg)))
          refine OpOk.mapUpdateG (et := 4) (kv := setKV) (vv := Value.bool) (k := ⟨s1, s2, s3, s4⟩) (v := true) rfl rfl rfl (by kernel_rfl) set_enc j3.1 hsi (fun c2 => ?_)
          repeat (first
            | (show _ ∧ _; exact ⟨rfl, rfl, rfl⟩)
            | refine wkP ?_
            | (show OpOk _ _ _ _ _ _ _; first | refine opB (fun b => ?_) | refine opA (fun a' c' hc1 hc2 => ?_))
            | (show GJ _ _ _ _ _ _ _; first | (apply GJ.and; exact rfl; intro hg) | (apply GJ.or; exact rfl; intro hg)))
          rw [show setsV o ++ flat [Value.agg #[wV s1, wV s2, wV s3, wV s4]] = setsV (o ++ [⟨s1, s2, s3, s4⟩]) from hsn.symm, ← hol]
          rw [← hol] at hc1
          repeat (first
            | (show _ ∧ _; exact ⟨rfl, rfl, rfl⟩)
            | refine wkP ?_
            | (show OpOk _ _ _ _ _ _ _; first | refine opB (fun b => ?_) | refine opA (fun a' c' hc1 hc2 => ?_))
            | (show GJ _ _ _ _ _ _ _; first | (apply GJ.and; exact rfl; intro hg) | (apply GJ.or; exact rfl; intro hg)))
          refine Wk.id ⟨(j + 1, o ++ [⟨s1, s2, s3, s4⟩], (a', c'), putG M cM ⟨s1, s2, s3, s4⟩ true, c2), ⟨rfl, ?_⟩, ?_, Sub.auto, Sup.auto⟩
          all_goals try dsimp only
          · exact ⟨by omega, j2, j3.push hsi cM, ⟨hc1, hc2⟩, by rw [hol]; omega⟩
          · omega
    · obtain rfl : j = row.length := by omega
      rw [List.drop_length] at j2
      repeat (first
        | (show _ ∧ _; exact ⟨rfl, rfl, rfl⟩)
        | refine wkP ?_
        | (show OpOk _ _ _ _ _ _ _; first | refine opB (fun b => ?_) | refine opA (fun a' c' hc1 hc2 => ?_))
        | (show GJ _ _ _ _ _ _ _; first | (apply GJ.and; exact rfl; intro hg) | (apply GJ.or; exact rfl; intro hg)))
      repeat (first
        | (show _ ∧ _; exact ⟨rfl, rfl, rfl⟩)
        | refine wkP ?_
        | (show OpOk _ _ _ _ _ _ _; first | refine opB (fun b => ?_) | refine opA (fun a' c' hc1 hc2 => ?_))
        | (show GJ _ _ _ _ _ _ _; first | (apply GJ.and; exact rfl; intro hg) | (apply GJ.or; exact rfl; intro hg)))
      refine Wk.id ⟨(i + 1, o, (ao, co), M, cM), ⟨rfl, ?_⟩, ?_, Sub.auto, Sup.auto⟩
      all_goals try dsimp only
      · exact ⟨by omega, j2, j3, j4, by omega⟩
      · omega
  · obtain rfl : i = a.rows.length := by omega
    rw [List.drop_length, List.foldl_nil] at i2
    subst i2
    repeat (first
      | (show _ ∧ _; exact ⟨rfl, rfl, rfl⟩)
      | refine wkP ?_
      | (show OpOk _ _ _ _ _ _ _; first | refine opB (fun b => ?_) | refine opA (fun a' c' hc1 hc2 => ?_))
      | (show GJ _ _ _ _ _ _ _; first | (apply GJ.and; exact rfl; intro hg) | (apply GJ.or; exact rfl; intro hg)))
    exact Wk.outS Sup.auto (.refl _) (hk _ _ i4.1 i4.2)
end
end Go.Proofs.Ytkpdnpcmeadggaa
/-! Contracts of nfa's laws: runs. -/
namespace Go.Proofs.Ytkpdnpcmeadggaa
open Go Go.E
set_option linter.unusedVariables false
set_option linter.unusedSimpArgs false
set_option maxRecDepth 10000
mutual
theorem rg_ins {ro : Ro} : ∀ {n : RgD} {v : List Value}, RgOk ro n v → insD n
  | .mk k z l x y, v, h => by
    rw [RgOk] at h
    obtain ⟨a, c, cs, h1, h2, h3, h4⟩ := h
    rw [insD]
    exact ⟨h2, rgs_ins h4⟩
theorem rgs_ins {ro : Ro} : ∀ {l : List RgD} {cs : List Value}, RgsOk ro l cs → insK l
  | [], cs, h => by rw [insK]; trivial
  | n :: l, cs, h => by
    rw [RgsOk] at h
    obtain ⟨v, r, h0, h1, h2⟩ := h
    rw [insK]
    exact ⟨rg_ins h1, rgs_ins h2⟩
end

def runsT : List UInt8 := [97, 123, 50, 44, 125, 98, 63]
def runsN : RgD := catD' [repD (oneD (ofD 97)) 2 (-1), repD (oneD (ofD 98)) 0 1]
theorem runs_parse : parseD runsT = (runsN, (0, 0)) := by kernel_rfl
theorem runs_make : (makeN runsN).1 = 0 := by kernel_rfl
theorem runs_m1 : matchN (makeN runsN).2 [97, 97, 97, 98] = true := by kernel_rfl
theorem runs_m2 : matchN (makeN runsN).2 [97, 98] = false := by kernel_rfl
theorem runs_m3 : matchN (makeN runsN).2 [97, 97] = true := by kernel_rfl
theorem runs_len : 3 < (makeN runsN).2.rows.length := of_decide_eq_true (by kernel_rfl)
theorem runs_sets : (setsN (makeN runsN).2.rows).length = 2 := by kernel_rfl
theorem RowsOk.le {ro ro' : Ro} {R : RowsN} {hs : List Value} (h : RowsOk ro R hs) (hl : Le ro ro') : RowsOk ro' R hs := ⟨h.len, fun i row hr => by
  obtain ⟨ad, cp, h1, h2⟩ := h.row i row hr
  exact ⟨ad, cp, h1, h2.up⟩⟩
theorem AutoOk.le {ro ro' : Ro} {a : NfaD} {v : List Value} (h : AutoOk ro a v) (hl : Le ro ro') : AutoOk ro' a v := by
  obtain ⟨ad, cp, hs, e, hr, hw⟩ := h
  exact ⟨ad, cp, hs, e, hr.up, hw.le hl⟩
section
variable {ro : Ro} {own r : Chs} {K : Value → Ro → Chs → Prop} {g : Chunk → Chs}
set_option maxHeartbeats 4000000 in
theorem nruns_ok (hk : ∀ ro', Le ro ro' → K (.bool true) ro' own) : CallOk Try.prog 5 #[] ro own K := by
  refine CallOk.intro (args := []) (rs := [_]) T_ok Try.func5 Try.call5 rfl rfl (by kernel_rfl) rfl rfl ?_
  repeat (first
    | (show _ ∧ _; exact ⟨rfl, rfl, rfl⟩)
    | refine wkP ?_
    | (show OpOk _ _ _ _ _ _ _; first | refine opB (fun b => ?_) | refine opA (fun a' c' hc1 hc2 => ?_))
    | (show GJ _ _ _ _ _ _ _; first | (apply GJ.and; exact rfl; intro hg) | (apply GJ.or; exact rfl; intro hg)))
  refine rparse_ok (t := runsT) (by decide) (fun ro1 v hl1 hv => ?_)
  rw [runs_parse] at hv ⊢
  have hin : insD runsN := rg_ins (n := runsN) hv
  obtain ⟨a1, c1, hvc⟩ := RgOk.cells (n := runsN) hv
  have hv : RgOk ro1 runsN v := hv
  subst hvc
  repeat (first
    | (show _ ∧ _; exact ⟨rfl, rfl, rfl⟩)
    | refine wkP ?_
    | (show OpOk _ _ _ _ _ _ _; first | refine opB (fun b => ?_) | refine opA (fun a' c' hc1 hc2 => ?_))
    | (show GJ _ _ _ _ _ _ _; first | (apply GJ.and; exact rfl; intro hg) | (apply GJ.or; exact rfl; intro hg)))
  refine nmake_ok (n := runsN) hv (fun ro2 v2 hl2 hA => ?_)
  rw [runs_make]
  have hK := make_k hin
  have h1 := runs_m1
  have h2 := runs_m2
  have h3 := runs_m3
  have h4 := runs_len
  have h5 := runs_sets
  generalize (makeN runsN).2 = a at *
  have hA0 := hA
  obtain ⟨ad, cp, hs, rfl, hrs, hrw⟩ := hA
  repeat (first
    | (show _ ∧ _; exact ⟨rfl, rfl, rfl⟩)
    | refine wkP ?_
    | (show OpOk _ _ _ _ _ _ _; first | refine opB (fun b => ?_) | refine opA (fun a' c' hc1 hc2 => ?_))
    | (show GJ _ _ _ _ _ _ _; first | (apply GJ.and; exact rfl; intro hg) | (apply GJ.or; exact rfl; intro hg)))
  refine OpOk.bytesConst rfl rfl rfl rfl (fun ro3 hl3 hr3 => ?_)
  repeat (first
    | (show _ ∧ _; exact ⟨rfl, rfl, rfl⟩)
    | refine wkP ?_
    | (show OpOk _ _ _ _ _ _ _; first | refine opB (fun b => ?_) | refine opA (fun a' c' hc1 hc2 => ?_))
    | (show GJ _ _ _ _ _ _ _; first | (apply GJ.and; exact rfl; intro hg) | (apply GJ.or; exact rfl; intro hg)))
  refine nmatch_ok (tx := [97, 97, 97, 98]) (hA0.le hl3) hK hr3.rds rfl ?_
  rw [h1]
  repeat (first
    | (show _ ∧ _; exact ⟨rfl, rfl, rfl⟩)
    | refine wkP ?_
    | (show OpOk _ _ _ _ _ _ _; first | refine opB (fun b => ?_) | refine opA (fun a' c' hc1 hc2 => ?_))
    | (show GJ _ _ _ _ _ _ _; first | (apply GJ.and; exact rfl; intro hg) | (apply GJ.or; exact rfl; intro hg)))
  refine OpOk.bytesConst rfl rfl rfl rfl (fun ro4 hl4 hr4 => ?_)
  repeat (first
    | (show _ ∧ _; exact ⟨rfl, rfl, rfl⟩)
    | refine wkP ?_
    | (show OpOk _ _ _ _ _ _ _; first | refine opB (fun b => ?_) | refine opA (fun a' c' hc1 hc2 => ?_))
    | (show GJ _ _ _ _ _ _ _; first | (apply GJ.and; exact rfl; intro hg) | (apply GJ.or; exact rfl; intro hg)))
  refine nmatch_ok (tx := [97, 98]) ((hA0.le hl3).le hl4) hK hr4.rds rfl ?_
  rw [h2]
  repeat (first
    | (show _ ∧ _; exact ⟨rfl, rfl, rfl⟩)
    | refine wkP ?_
    | (show OpOk _ _ _ _ _ _ _; first | refine opB (fun b => ?_) | refine opA (fun a' c' hc1 hc2 => ?_))
    | (show GJ _ _ _ _ _ _ _; first | (apply GJ.and; exact rfl; intro hg) | (apply GJ.or; exact rfl; intro hg)))
  refine OpOk.bytesConst rfl rfl rfl rfl (fun ro5 hl5 hr5 => ?_)
  repeat (first
    | (show _ ∧ _; exact ⟨rfl, rfl, rfl⟩)
    | refine wkP ?_
    | (show OpOk _ _ _ _ _ _ _; first | refine opB (fun b => ?_) | refine opA (fun a' c' hc1 hc2 => ?_))
    | (show GJ _ _ _ _ _ _ _; first | (apply GJ.and; exact rfl; intro hg) | (apply GJ.or; exact rfl; intro hg)))
  have hA5 := ((hA0.le hl3).le hl4).le hl5
  refine nmatch_ok (tx := [97, 97]) hA5 hK hr5.rds rfl ?_
  rw [h3]
  repeat (first
    | (show _ ∧ _; exact ⟨rfl, rfl, rfl⟩)
    | refine wkP ?_
    | (show OpOk _ _ _ _ _ _ _; first | refine opB (fun b => ?_) | refine opA (fun a' c' hc1 hc2 => ?_))
    | (show GJ _ _ _ _ _ _ _; first | (apply GJ.and; exact rfl; intro hg) | (apply GJ.or; exact rfl; intro hg)))
  refine nlen_ok hA5 ?_
  repeat (first
    | (show _ ∧ _; exact ⟨rfl, rfl, rfl⟩)
    | refine wkP ?_
    | (show OpOk _ _ _ _ _ _ _; first | refine opB (fun b => ?_) | refine opA (fun a' c' hc1 hc2 => ?_))
    | (show GJ _ _ _ _ _ _ _; first | (apply GJ.and; exact rfl; intro hg) | (apply GJ.or; exact rfl; intro hg)))
  refine nsets_ok hA5 hK (fun a6 c6 g1 g2 => ?_)
  rw [h5]
  repeat (first
    | (show _ ∧ _; exact ⟨rfl, rfl, rfl⟩)
    | refine wkP ?_
    | (show OpOk _ _ _ _ _ _ _; first | refine opB (fun b => ?_) | refine opA (fun a' c' hc1 hc2 => ?_))
    | (show GJ _ _ _ _ _ _ _; first | (apply GJ.and; exact rfl; intro hg) | (apply GJ.or; exact rfl; intro hg)))
  exact Wk.outS Sup.auto (.refl _) (hk ro5 ((((hl1.trans hl2).trans hl3).trans hl4).trans hl5))
end
end Go.Proofs.Ytkpdnpcmeadggaa
/-! Contracts of Go's library: slices.Equal of numbers. -/
namespace Go.Proofs.Ytkpdnpcmeadggaa
open Go Go.E
set_option linter.unusedVariables false
set_option linter.unusedSimpArgs false
set_option maxRecDepth 10000
theorem take_eq_next {α : Type} {l m : List α} {i : Nat} {x y : α} (hx : l[i]? = some x) (hy : m[i]? = some y) (h : l.take i = m.take i) : x = y ↔ l.take (i + 1) = m.take (i + 1) := by
  rw [List.take_add_one, List.take_add_one, hx, hy, h]
  simp
section
variable {ro : Ro} {own r : Chs} {K : Value → Ro → Chs → Prop} {g : Chunk → Chs}
theorem equalI_ok {a1 a2 : Option Addr} {n1 n2 c1 c2 : Nat} {l m : List Int} (h1 : Rds ro own a1 n1 c1 1 (l.map (Value.int .i64))) (h2 : Rds ro own a2 n2 c2 1 (m.map (Value.int .i64))) (e1 : l.length = n1) (e2 : m.length = n2)
    (hk : ∀ b : Bool, (b = true ↔ l = m) → K (.bool b) ro own) : CallOk Try.prog 14 #[.slice a1 n1 c1, .slice a2 n2 c2] ro own K := by
  have m1 := h1.max
  have m2 := h2.max
  have k1 := h1.le
  have k2 := h2.le
  unfold maxLen at m1 m2
  subst e1; subst e2
  by_cases hl : l.length = m.length
  · refine CallOk.intro (args := [_, _]) (rs := [_]) T_ok Try.func14 Try.call14 rfl rfl (by kernel_rfl) rfl rfl ?_
    repeat (first
      | (show _ ∧ _; exact ⟨rfl, rfl, rfl⟩)
      | refine wkP ?_
      | (show OpOk _ _ _ _ _ _ _; first | refine opB (fun b => ?_) | refine opA (fun a' c' hc1 hc2 => ?_))
      | (show GJ _ _ _ _ _ _ _; first | (apply GJ.and; exact rfl; intro hg) | (apply GJ.or; exact rfl; intro hg)))
    refine LoopOk.at (ι := Nat) Keep.auto (fun i => [(13, .int .i64 (i : Int))]) (fun i => own) (fun i => i ≤ l.length ∧ l.take i = m.take i) (fun i => l.length - i) 0 ?_ Sub.auto Sup.auto ?_
    · exact ⟨Nat.zero_le _, by simp⟩
    rintro i ⟨i1, i2⟩
    dsimp only [List.cons_append, List.nil_append] at i1 i2 ⊢
    by_cases hi : i < l.length
    · obtain ⟨x, hx⟩ : ∃ x, l[i]? = some x := ⟨_, List.getElem?_eq_getElem hi⟩
      obtain ⟨y, hy⟩ : ∃ y, m[i]? = some y := ⟨_, List.getElem?_eq_getElem (by omega)⟩
      have hxb : l[((i : Nat) : Int).toNat]! = x := by rw [Int.toNat_natCast, List.getElem!_eq_getElem?_getD, hx]; rfl
      have hyb : m[((i : Nat) : Int).toNat]! = y := by rw [Int.toNat_natCast, List.getElem!_eq_getElem?_getD, hy]; rfl
      have hn := take_eq_next hx hy i2
      by_cases hxy : x = y
      · repeat (first
          | (show _ ∧ _; exact ⟨rfl, rfl, rfl⟩)
          | refine wkP ?_
          | (show OpOk _ _ _ _ _ _ _; first | refine opB (fun b => ?_) | refine opA (fun a' c' hc1 hc2 => ?_))
          | (show GJ _ _ _ _ _ _ _; first | (apply GJ.and; exact rfl; intro hg) | (apply GJ.or; exact rfl; intro hg)))
        repeat (first
          | (show _ ∧ _; exact ⟨rfl, rfl, rfl⟩)
          | refine wkP ?_
          | (show OpOk _ _ _ _ _ _ _; first | refine opB (fun b => ?_) | refine opA (fun a' c' hc1 hc2 => ?_))
          | (show GJ _ _ _ _ _ _ _; first | (apply GJ.and; exact rfl; intro hg) | (apply GJ.or; exact rfl; intro hg)))
        refine Wk.id ⟨i + 1, ⟨rfl, ?_⟩, ?_, Sub.auto, Sup.auto⟩
        all_goals try dsimp only
        · exact ⟨by omega, hn.1 hxy⟩
        · omega
      · repeat (first
          | (show _ ∧ _; exact ⟨rfl, rfl, rfl⟩)
          | refine wkP ?_
          | (show OpOk _ _ _ _ _ _ _; first | refine opB (fun b => ?_) | refine opA (fun a' c' hc1 hc2 => ?_))
          | (show GJ _ _ _ _ _ _ _; first | (apply GJ.and; exact rfl; intro hg) | (apply GJ.or; exact rfl; intro hg)))
        refine Wk.id (hk false ⟨(fun h => by cases h), fun h => ?_⟩)
        subst h
        exact absurd (Option.some.inj (hx.symm.trans hy)) hxy
    · obtain rfl : i = l.length := by omega
      repeat (first
        | (show _ ∧ _; exact ⟨rfl, rfl, rfl⟩)
        | refine wkP ?_
        | (show OpOk _ _ _ _ _ _ _; first | refine opB (fun b => ?_) | refine opA (fun a' c' hc1 hc2 => ?_))
        | (show GJ _ _ _ _ _ _ _; first | (apply GJ.and; exact rfl; intro hg) | (apply GJ.or; exact rfl; intro hg)))
      refine Wk.id (hk true ⟨fun _ => ?_, fun _ => rfl⟩)
      rw [List.take_length, hl, List.take_length] at i2
      exact i2
  · refine CallOk.intro (args := [_, _]) (rs := [_]) T_ok Try.func14 Try.call14 rfl rfl (by kernel_rfl) rfl rfl ?_
    repeat (first
      | (show _ ∧ _; exact ⟨rfl, rfl, rfl⟩)
      | refine wkP ?_
      | (show OpOk _ _ _ _ _ _ _; first | refine opB (fun b => ?_) | refine opA (fun a' c' hc1 hc2 => ?_))
      | (show GJ _ _ _ _ _ _ _; first | (apply GJ.and; exact rfl; intro hg) | (apply GJ.or; exact rfl; intro hg)))
    exact Wk.id (hk false ⟨(fun h => by cases h), fun h => absurd (congrArg List.length h) hl⟩)
end
end Go.Proofs.Ytkpdnpcmeadggaa
