/- Merged of: Na6 Na7 Na8 Na9. Contracts of nfa: Len, Start, Step, Ends, Match. -/
import Derived.Test.YtkpdnpcmeadggaaNa5
import Derived.Test.YtkpdnpcmeadggaaNf4
import Derived.Test.YtkpdnpcmeadggaaC1
/-! Contracts of nfa: Len, Start, Step, Ends, Match. -/
namespace Go.Proofs.Ytkpdnpcmeadggaa
open Go Go.E
set_option linter.unusedVariables false
set_option linter.unusedSimpArgs false
set_option maxRecDepth 10000
def allE (rows : RowsN) : Nat := (rows.map List.length).sum
mutual
theorem ones_ins : ∀ n : RgD, insD n → ∀ s ∈ onesN n, SetIn s
  | .mk k s l a b, h, y, hy => by
    rw [insD] at h
    rw [onesN] at hy
    split at hy
    · simp only [List.mem_singleton] at hy; subst hy; exact h.1
    · exact onesK_ins l h.2 y hy
theorem onesK_ins : ∀ l : List RgD, insK l → ∀ s ∈ onesK l, SetIn s
  | [], h, y, hy => by rw [onesK] at hy; cases hy
  | x :: r, h, y, hy => by
    rw [insK] at h
    rw [onesK, List.mem_append] at hy
    rcases hy with hy | hy
    · exact ones_ins x h.1 y hy
    · exact onesK_ins r h.2 y hy
end

/-- What is known of an automaton that was made. -/
structure AutoK (a : NfaD) : Prop where
  ok : NfaOk a
  sets : ∀ s ∈ setsN a.rows, SetIn s
  edges : allE a.rows ≤ 900000
theorem nil_k : AutoK nilN := ⟨nil_ok, (fun s hs => by simp [setsN, nilN] at hs), by decide⟩
theorem make_k {n : RgD} (h : insD n) : AutoK (makeN n).2 := by
  by_cases hc : (checkD n 512).1 = 0
  · have hw := (check_zero n 512 hc).1
    refine ⟨make_ok hw, fun s hs => ones_ins n h s (sets_few s hs), ?_⟩
    have hb := bud_st0 hc
    have m := made_node n hw 0 st0 st0_ok (by decide)
    have hm := (bud_made m.1).1
    unfold makeN
    rw [if_neg (by rw [hc]; decide)]
    split
    · decide
    · unfold budN at hm hb
      show edgesN _ ≤ _
      omega
  · unfold makeN
    rw [if_pos hc]
    exact nil_k
theorem allE_drop : ∀ (rows : RowsN) (k : Nat), allE (rows.drop k) ≤ allE rows
  | rows, 0 => Nat.le_refl _
  | [], k + 1 => Nat.le_refl _
  | x :: rows, k + 1 => by have := allE_drop rows k; unfold allE at *; simp only [List.drop_succ_cons, List.map_cons, List.sum_cons]; omega
theorem byte_len (rows : RowsN) (c i : Nat) : (byteTo rows c (i : Int)).length ≤ (rows[i]?.getD []).length := by
  unfold byteTo
  split
  · rw [List.length_map, Int.toNat_natCast]; exact List.length_filter_le _ _
  · exact Nat.zero_le _
theorem step_lenA (rows : RowsN) (c : Nat) : ∀ (l : List Nat) (k : Nat), l.Pairwise (· < ·) → (∀ x ∈ l, k ≤ x) → ((intsN l).flatMap (byteTo rows c)).length ≤ allE (rows.drop k)
  | [], k, _, _ => Nat.zero_le _
  | x :: l, k, h, hk => by
    obtain ⟨h1, h2⟩ := List.pairwise_cons.1 h
    have ih := step_lenA rows c l (x + 1) h2 (fun y hy => h1 y hy)
    have hx := hk x (by simp)
    have hb := byte_len rows c x
    have e : intsN (x :: l) = (x : Int) :: intsN l := rfl
    rw [e, List.flatMap_cons, List.length_append]
    have e2 : rows.drop x = (rows.drop k).drop (x - k) := by rw [List.drop_drop]; congr 1; omega
    have e3 := allE_drop (rows.drop k) (x - k)
    rw [← e2] at e3
    by_cases hl : x < rows.length
    · rw [List.drop_eq_getElem_cons hl] at e3
      rw [List.getElem?_eq_getElem hl] at hb
      unfold allE at *
      simp only [List.map_cons, List.sum_cons, Option.getD_some] at *
      omega
    · rw [List.getElem?_eq_none (by omega)] at hb
      rw [List.drop_eq_nil_of_le (by omega)] at ih
      unfold allE at *
      have hb2 : (byteTo rows c (x : Int)).length = 0 := by simpa using hb
      have ih2 : ((intsN l).flatMap (byteTo rows c)).length = 0 := by simpa using ih
      omega
theorem step_len {rows : RowsN} {c : Nat} {l : List Nat} (h : l.Pairwise (· < ·)) : ((intsN l).flatMap (byteTo rows c)).length ≤ allE rows := step_lenA rows c l 0 h (fun _ _ => Nat.zero_le _)
theorem ints_nats (l : List Nat) : (intsN l).map (Value.int .i64) = natsV l := by unfold intsN natsV; rw [List.map_map]; rfl
theorem ints_len (l : List Nat) : (intsN l).length = l.length := by simp [intsN]
section
variable {ro : Ro} {own r : Chs} {K : Value → Ro → Chs → Prop} {g : Chunk → Chs}
theorem nlen_ok {a : NfaD} {v : List Value} (hv : AutoOk ro a v) (hk : K (.int .i64 (a.rows.length : Int)) ro own) : CallOk Try.prog 9 #[.agg v.toArray] ro own K := by
  obtain ⟨ad, cp, hs, rfl, hrs, hrw⟩ := hv
  refine CallOk.intro (args := [_]) (rs := [_]) T_ok Try.func9 Try.call9 rfl rfl (by kernel_rfl) rfl rfl ?_
  repeat (first
    | (show _ ∧ _; exact ⟨rfl, rfl, rfl⟩)
    | refine wkP ?_
    | (show OpOk _ _ _ _ _ _ _; first | refine opB (fun b => ?_) | refine opA (fun a' c' hc1 hc2 => ?_))
    | (show GJ _ _ _ _ _ _ _; first | (apply GJ.and; exact rfl; intro hg) | (apply GJ.or; exact rfl; intro hg)))
  exact Wk.outS Sup.auto (.refl _) hk
theorem nstart_ok {a : NfaD} {v : List Value} (hv : AutoOk ro a v) (ha : NfaOk a)
    (hk : ∀ a' c', (startN a.rows).length ≤ c' → c' ≤ maxLen → K (.slice a' (startN a.rows).length c') ro (.sl a' (startN a.rows).length c' 3 1 (natsV (startN a.rows)) :: own)) :
    CallOk Try.prog 10 #[.agg v.toArray] ro own K := by
  have hv0 := hv
  obtain ⟨ad, cp, hs, rfl, hrs, hrw⟩ := hv
  have hle := ha.le
  unfold startN at hk
  by_cases h : a.rows = []
  · rw [if_pos h] at hk
    have h0 : a.rows.length = 0 := by rw [h]; rfl
    refine CallOk.intro (args := [_]) (rs := [_]) T_ok Try.func10 Try.call10 rfl rfl (by kernel_rfl) rfl rfl ?_
    repeat (first
      | (show _ ∧ _; exact ⟨rfl, rfl, rfl⟩)
      | refine wkP ?_
      | (show OpOk _ _ _ _ _ _ _; first | refine opB (fun b => ?_) | refine opA (fun a' c' hc1 hc2 => ?_))
      | (show GJ _ _ _ _ _ _ _; first | (apply GJ.and; exact rfl; intro hg) | (apply GJ.or; exact rfl; intro hg)))
    exact Wk.own _ (Sup.nilc (Sup.drop _ (Sup.all _))) (Wk.id (hk none 0 (Nat.le_refl _) (Nat.zero_le _)))
  · rw [if_neg h] at hk
    have h0 : 0 < a.rows.length := List.length_pos_iff.2 h
    refine CallOk.intro (args := [_]) (rs := [_]) T_ok Try.func10 Try.call10 rfl rfl (by kernel_rfl) rfl rfl ?_
    repeat (first
      | (show _ ∧ _; exact ⟨rfl, rfl, rfl⟩)
      | refine wkP ?_
      | (show OpOk _ _ _ _ _ _ _; first | refine opB (fun b => ?_) | refine opA (fun a' c' hc1 hc2 => ?_))
      | (show GJ _ _ _ _ _ _ _; first | (apply GJ.and; exact rfl; intro hg) | (apply GJ.or; exact rfl; intro hg)))
    refine nreach_ok (list := [0]) hv0 ha (Rds.hasSl (t := 3) (Nat.le_refl _) (by decide) rfl) rfl (fun a' c' h1 h2 => ?_)
    repeat (first
      | (show _ ∧ _; exact ⟨rfl, rfl, rfl⟩)
      | refine wkP ?_
      | (show OpOk _ _ _ _ _ _ _; first | refine opB (fun b => ?_) | refine opA (fun a' c' hc1 hc2 => ?_))
      | (show GJ _ _ _ _ _ _ _; first | (apply GJ.and; exact rfl; intro hg) | (apply GJ.or; exact rfl; intro hg)))
    exact Wk.outS Sup.auto (.refl _) (hk a' c' h1 h2)
theorem nindex_ok {al : Option Addr} {nl cl : Nat} {list : List Int} {x : Int} (hr : Rds ro own al nl cl 1 (list.map (Value.int .i64))) (hnl : list.length = nl)
    (hk : ∀ z : Int, decide (z ≥ 0) = list.contains x → K (.int .i64 z) ro own) : CallOk Try.prog 34 #[.slice al nl cl, .int .i64 x] ro own K := by
  have hmx := hr.max
  have hncl := hr.le
  unfold maxLen at hmx
  subst hnl
  refine CallOk.intro (args := [_, _]) (rs := [_]) T_ok Try.func34 Try.call34 rfl rfl (by kernel_rfl) rfl rfl ?_
  repeat (first
    | (show _ ∧ _; exact ⟨rfl, rfl, rfl⟩)
    | refine wkP ?_
    | (show OpOk _ _ _ _ _ _ _; first | refine opB (fun b => ?_) | refine opA (fun a' c' hc1 hc2 => ?_))
    | (show GJ _ _ _ _ _ _ _; first | (apply GJ.and; exact rfl; intro hg) | (apply GJ.or; exact rfl; intro hg)))
  refine LoopOk.at (ι := Nat) Keep.auto (fun i => [(8, .int .i64 (i : Int))]) (fun i => own) (fun i => i ≤ list.length ∧ x ∉ list.take i) (fun i => list.length - i) 0 ?_ Sub.auto Sup.auto ?_
  · exact ⟨Nat.zero_le _, by simp⟩
  rintro i ⟨i1, i2⟩
  dsimp only [List.cons_append, List.nil_append] at i1 i2 ⊢
  by_cases hi : i < list.length
  · obtain ⟨z, hz⟩ : ∃ z, list[i]? = some z := ⟨_, List.getElem?_eq_getElem hi⟩
    have hzb : list[((i : Nat) : Int).toNat]! = z := by rw [Int.toNat_natCast, List.getElem!_eq_getElem?_getD, hz]; rfl
    by_cases hx : x = z
    · subst hx
      repeat (first
        | (show _ ∧ _; exact ⟨rfl, rfl, rfl⟩)
        | refine wkP ?_
        | (show OpOk _ _ _ _ _ _ _; first | refine opB (fun b => ?_) | refine opA (fun a' c' hc1 hc2 => ?_))
        | (show GJ _ _ _ _ _ _ _; first | (apply GJ.and; exact rfl; intro hg) | (apply GJ.or; exact rfl; intro hg)))
      refine Wk.id (hk _ ?_)
      rw [decide_eq_true (show (i : Int) ≥ 0 by omega)]
      exact (List.contains_iff_mem.2 (List.mem_of_getElem? hz)).symm
    · repeat (first
        | (show _ ∧ _; exact ⟨rfl, rfl, rfl⟩)
        | refine wkP ?_
        | (show OpOk _ _ _ _ _ _ _; first | refine opB (fun b => ?_) | refine opA (fun a' c' hc1 hc2 => ?_))
        | (show GJ _ _ _ _ _ _ _; first | (apply GJ.and; exact rfl; intro hg) | (apply GJ.or; exact rfl; intro hg)))
      repeat (first
        | (show _ ∧ _; exact ⟨rfl, rfl, rfl⟩)
        | refine wkP ?_
        | (show OpOk _ _ _ _ _ _ _; first | refine opB (fun b => ?_) | refine opA (fun a' c' hc1 hc2 => ?_))
        | (show GJ _ _ _ _ _ _ _; first | (apply GJ.and; exact rfl; intro hg) | (apply GJ.or; exact rfl; intro hg)))
      refine Wk.id ⟨i + 1, ⟨rfl, ?_⟩, ?_, Sub.auto, Sup.auto⟩
      all_goals try dsimp only
      · refine ⟨by omega, fun hm => ?_⟩
        rw [List.take_add_one, hz] at hm
        rcases List.mem_append.1 hm with hm | hm
        · exact i2 hm
        · simp at hm; exact hx hm
      · omega
  · obtain rfl : i = list.length := by omega
    rw [List.take_length] at i2
    repeat (first
      | (show _ ∧ _; exact ⟨rfl, rfl, rfl⟩)
      | refine wkP ?_
      | (show OpOk _ _ _ _ _ _ _; first | refine opB (fun b => ?_) | refine opA (fun a' c' hc1 hc2 => ?_))
      | (show GJ _ _ _ _ _ _ _; first | (apply GJ.and; exact rfl; intro hg) | (apply GJ.or; exact rfl; intro hg)))
    refine Wk.id (hk _ ?_)
    simpa using i2
theorem ncontains_ok {al : Option Addr} {nl cl : Nat} {list : List Int} {x : Int} (hr : Rds ro own al nl cl 1 (list.map (Value.int .i64))) (hnl : list.length = nl)
    (hk : K (.bool (list.contains x)) ro own) : CallOk Try.prog 23 #[.slice al nl cl, .int .i64 x] ro own K := by
  refine CallOk.intro (args := [_, _]) (rs := [_]) T_ok Try.func23 Try.call23 rfl rfl (by kernel_rfl) rfl rfl ?_
  repeat (first
    | (show _ ∧ _; exact ⟨rfl, rfl, rfl⟩)
    | refine wkP ?_
    | (show OpOk _ _ _ _ _ _ _; first | refine opB (fun b => ?_) | refine opA (fun a' c' hc1 hc2 => ?_))
    | (show GJ _ _ _ _ _ _ _; first | (apply GJ.and; exact rfl; intro hg) | (apply GJ.or; exact rfl; intro hg)))
  refine nindex_ok hr hnl (fun z hz => ?_)
  repeat (first
    | (show _ ∧ _; exact ⟨rfl, rfl, rfl⟩)
    | refine wkP ?_
    | (show OpOk _ _ _ _ _ _ _; first | refine opB (fun b => ?_) | refine opA (fun a' c' hc1 hc2 => ?_))
    | (show GJ _ _ _ _ _ _ _; first | (apply GJ.and; exact rfl; intro hg) | (apply GJ.or; exact rfl; intro hg)))
  exact Wk.val hk (congrArg Value.bool hz.symm)
theorem nends_ok {a : NfaD} {v : List Value} {al : Option Addr} {nl cl : Nat} {list : List Int} (hv : AutoOk ro a v) (ha : NfaOk a) (hr : Rds ro own al nl cl 1 (list.map (Value.int .i64))) (hnl : list.length = nl)
    (hk : K (.bool (endsN a list)) ro own) : CallOk Try.prog 12 #[.agg v.toArray, .slice al nl cl] ro own K := by
  obtain ⟨ad, cp, hs, rfl, hrs, hrw⟩ := hv
  unfold endsN at hk
  by_cases h : 0 < a.rows.length
  · rw [decide_eq_true h, Bool.true_and] at hk
    refine CallOk.intro (args := [_, _]) (rs := [_]) T_ok Try.func12 Try.call12 rfl rfl (by kernel_rfl) rfl rfl ?_
    repeat (first
      | (show _ ∧ _; exact ⟨rfl, rfl, rfl⟩)
      | refine wkP ?_
      | (show OpOk _ _ _ _ _ _ _; first | refine opB (fun b => ?_) | refine opA (fun a' c' hc1 hc2 => ?_))
      | (show GJ _ _ _ _ _ _ _; first | (apply GJ.and; exact rfl; intro hg) | (apply GJ.or; exact rfl; intro hg)))
    refine ncontains_ok (x := a.last) hr.up hnl ?_
    repeat (first
      | (show _ ∧ _; exact ⟨rfl, rfl, rfl⟩)
      | refine wkP ?_
      | (show OpOk _ _ _ _ _ _ _; first | refine opB (fun b => ?_) | refine opA (fun a' c' hc1 hc2 => ?_))
      | (show GJ _ _ _ _ _ _ _; first | (apply GJ.and; exact rfl; intro hg) | (apply GJ.or; exact rfl; intro hg)))
    exact Wk.outS Sup.auto (.refl _) hk
  · rw [decide_eq_false h, Bool.false_and] at hk
    have h0 : a.rows.length = 0 := by omega
    refine CallOk.intro (args := [_, _]) (rs := [_]) T_ok Try.func12 Try.call12 rfl rfl (by kernel_rfl) rfl rfl ?_
    repeat (first
      | (show _ ∧ _; exact ⟨rfl, rfl, rfl⟩)
      | refine wkP ?_
      | (show OpOk _ _ _ _ _ _ _; first | refine opB (fun b => ?_) | refine opA (fun a' c' hc1 hc2 => ?_))
      | (show GJ _ _ _ _ _ _ _; first | (apply GJ.and; exact rfl; intro hg) | (apply GJ.or; exact rfl; intro hg)))
    exact Wk.outS Sup.auto (.refl _) hk
end
end Go.Proofs.Ytkpdnpcmeadggaa
/-! Contracts of nfa: Step, Match. -/
namespace Go.Proofs.Ytkpdnpcmeadggaa
open Go Go.E
set_option linter.unusedVariables false
set_option linter.unusedSimpArgs false
set_option maxRecDepth 10000
/-- The edges of a row by a byte. -/
def rowTo (c : Nat) (l : List EdgeD) : List Int := (l.filter fun x => !x.free && x.set.has c).map fun x => Int.ofNat x.to
theorem rowTo_snoc {c : Nat} {row : List EdgeD} {j : Nat} {x : EdgeD} (hx : row[j]? = some x) : rowTo c (row.take (j + 1)) = rowTo c (row.take j) ++ if (!x.free && x.set.has c) = true then [Int.ofNat x.to] else [] := by
  unfold rowTo
  rw [List.take_add_one, hx, List.filter_append, List.map_append]
  congr 1
  simp only [Option.toList_some, List.filter_cons, List.filter_nil]
  split <;> rfl
theorem rowTo_all {rows : RowsN} {c i : Nat} {row : List EdgeD} (h : rows[i]? = some row) : byteTo rows c (i : Int) = rowTo c row := by
  have hl := (List.getElem?_eq_some_iff.1 h).1
  unfold byteTo rowTo
  rw [if_pos ⟨Int.natCast_nonneg _, by omega⟩, Int.toNat_natCast, h]; rfl
theorem rowTo_len (c : Nat) (row : List EdgeD) (j : Nat) : (rowTo c (row.take j)).length ≤ (rowTo c row).length := by
  unfold rowTo
  rw [List.length_map, List.length_map]
  exact ((List.take_sublist j row).filter _).length_le
theorem flat_snoc {list : List Int} {f : Int → List Int} {i : Nat} {z : Int} (hz : list[i]? = some z) : (list.take (i + 1)).flatMap f = (list.take i).flatMap f ++ f z := by
  rw [List.take_add_one, hz, List.flatMap_append]
  congr 1
  simp
theorem flat_le {list : List Int} {f : Int → List Int} (i : Nat) : ((list.take i).flatMap f).length ≤ (list.flatMap f).length := by
  have := congrArg List.length (List.flatMap_append (xs := list.take i) (ys := list.drop i) (f := f))
  rw [List.take_append_drop, List.length_append] at this
  omega
theorem ints_one (l : List Int) : ∀ u ∈ l.map (Value.int .i64), u.oneCell' = true := fun u hu => by obtain ⟨c, _, rfl⟩ := List.mem_map.1 hu; rfl
section
variable {ro : Ro} {own r : Chs} {K : Value → Ro → Chs → Prop} {g : Chunk → Chs}
set_option maxHeartbeats 4000000 in
theorem nstep_ok {a : NfaD} {v : List Value} {list : List Int} {al : Option Addr} {nl cl c : Nat} (hv : AutoOk ro a v) (ha : AutoK a) (hr : Rds ro own al nl cl 1 (list.map (Value.int .i64))) (hnl : list.length = nl) (hc : c < 256) (hL : (list.flatMap (byteTo a.rows c)).length ≤ 1000000)
    (hk : ∀ a' c', (stepN a.rows list c).length ≤ c' → c' ≤ maxLen → K (.slice a' (stepN a.rows list c).length c') ro (.sl a' (stepN a.rows list c).length c' 3 1 (natsV (stepN a.rows list c)) :: own)) :
    CallOk Try.prog 16 #[.agg v.toArray, .slice al nl cl, .int .u8 (c : Int)] ro own K := by
  have hv0 := hv
  obtain ⟨ad, cp, hs, rfl, hrs, hrw⟩ := hv
  have hle := ha.ok.le
  have hmx := hr.max
  have hncl := hr.le
  have hmr := hrs.max
  have hncr := hrs.le
  unfold maxLen at hmx hmr
  subst hnl
  refine CallOk.intro (args := [_, _, _]) (rs := [_]) T_ok Try.func16 Try.call16 rfl rfl (by kernel_rfl) rfl rfl ?_
  repeat (first
    | (show _ ∧ _; exact ⟨rfl, rfl, rfl⟩)
    | refine wkP ?_
    | (show OpOk _ _ _ _ _ _ _; first | refine opB (fun b => ?_) | refine opA (fun a' c' hc1 hc2 => ?_))
    | (show GJ _ _ _ _ _ _ _; first | (apply GJ.and; exact rfl; intro hg) | (apply GJ.or; exact rfl; intro hg)))
  obtain ⟨b1, hb1⟩ : ∃ z : Nat, z = b := ⟨_, rfl⟩
  subst hb1
  refine LoopOk.at (ι := Nat × List Int × Option Addr × Nat) Keep.auto (fun (i, o, ao, co) => [(14, .int .i64 (i : Int)), (7, .slice ao o.length co)]) (fun (i, o, ao, co) => .sl ao o.length co 3 1 (o.map (Value.int .i64)) :: .blk b1 34 [.slice ad a.rows.length cp, .int .i64 a.last] :: own) (fun (i, o, ao, co) => i ≤ list.length ∧ o = (list.take i).flatMap (byteTo a.rows c) ∧ o.length ≤ co ∧ co ≤ maxLen) (fun (i, o, ao, co) => list.length - i) (0, [], none, 0) ?_ Sub.auto Sup.auto ?_
  · exact ⟨Nat.zero_le _, rfl, Nat.le_refl _, Nat.zero_le _⟩
  rintro ⟨i, o, ao, co⟩ ⟨i1, i2, i3, i4⟩
  dsimp only [List.cons_append, List.nil_append] at i1 i2 i3 i4 ⊢
  by_cases hi : i < list.length
  · obtain ⟨z, hz⟩ : ∃ z, list[i]? = some z := ⟨_, List.getElem?_eq_getElem hi⟩
    have hgz : (list.map (Value.int .i64))[i]? = some (.int .i64 z) := by simp [hz]
    have hzb : list[((i : Nat) : Int).toNat]! = z := by rw [Int.toNat_natCast, List.getElem!_eq_getElem?_getD, hz]; rfl
    have hfs := flat_snoc (f := byteTo a.rows c) hz
    have hfl := flat_le (list := list) (f := byteTo a.rows c) (i + 1)
    rw [hfs, List.length_append, ← i2] at hfl
    by_cases hz0 : z < 0 ∨ (a.rows.length : Int) ≤ z
    · have hb0 : byteTo a.rows c z = [] := by unfold byteTo; rw [if_neg (by omega)]
      rw [hb0, List.append_nil, ← i2] at hfs
      repeat (first
        | (show _ ∧ _; exact ⟨rfl, rfl, rfl⟩)
        | refine wkP ?_
        | (show OpOk _ _ _ _ _ _ _; first | refine opB (fun b => ?_) | refine opA (fun a' c' hc1 hc2 => ?_))
        | (show GJ _ _ _ _ _ _ _; first | (apply GJ.and; exact rfl; intro hg) | (apply GJ.or; exact rfl; intro hg)))
      repeat (first
        | (show _ ∧ _; exact ⟨rfl, rfl, rfl⟩)
        | refine wkP ?_
        | (show OpOk _ _ _ _ _ _ _; first | refine opB (fun b => ?_) | refine opA (fun a' c' hc1 hc2 => ?_))
        | (show GJ _ _ _ _ _ _ _; first | (apply GJ.and; exact rfl; intro hg) | (apply GJ.or; exact rfl; intro hg)))
      refine Wk.id ⟨(i + 1, o, ao, co), ⟨rfl, ?_⟩, ?_, Sub.auto, Sup.auto⟩
      all_goals try dsimp only
      · exact ⟨by omega, hfs.symm, i3, i4⟩
      · omega
    · obtain ⟨k, rfl⟩ : ∃ k : Nat, z = (k : Int) := ⟨z.toNat, by omega⟩
      have hkn : k < a.rows.length := by omega
      obtain ⟨row, hrow⟩ : ∃ row, a.rows[k]? = some row := ⟨_, List.getElem?_eq_getElem hkn⟩
      obtain ⟨ar, cr, hhs, hrr⟩ := hrw.row k row hrow
      have hrt := rowTo_all (c := c) hrow
      rw [hrt] at hfs hfl
      have hrm := hrr.max
      have hrl := hrr.le
      unfold maxLen at hrm
      repeat (first
        | (show _ ∧ _; exact ⟨rfl, rfl, rfl⟩)
        | refine wkP ?_
        | (show OpOk _ _ _ _ _ _ _; first | refine opB (fun b => ?_) | refine opA (fun a' c' hc1 hc2 => ?_))
        | (show GJ _ _ _ _ _ _ _; first | (apply GJ.and; exact rfl; intro hg) | (apply GJ.or; exact rfl; intro hg)))
      rw [hzb, Int.toNat_natCast]
      refine OpOk.load rfl rfl (Ld.rs hrs hhs) ?_
      repeat (first
        | (show _ ∧ _; exact ⟨rfl, rfl, rfl⟩)
        | refine wkP ?_
        | (show OpOk _ _ _ _ _ _ _; first | refine opB (fun b => ?_) | refine opA (fun a' c' hc1 hc2 => ?_))
        | (show GJ _ _ _ _ _ _ _; first | (apply GJ.and; exact rfl; intro hg) | (apply GJ.or; exact rfl; intro hg)))
      refine LoopOk.at (ι := Nat × List Int × Option Addr × Nat) Keep.auto (fun (j, o, ao, co) => [(33, .int .i64 (j : Int)), (7, .slice ao o.length co)]) (fun (j, o, ao, co) => .sl ao o.length co 3 1 (o.map (Value.int .i64)) :: .blk b1 34 [.slice ad a.rows.length cp, .int .i64 a.last] :: own) (fun (j, o, ao, co) => j ≤ row.length ∧ o = (list.take i).flatMap (byteTo a.rows c) ++ rowTo c (row.take j) ∧ o.length ≤ co ∧ co ≤ maxLen) (fun (j, o, ao, co) => row.length - j) (0, o, ao, co) ?_ Sub.auto Sup.auto ?_
      · exact ⟨Nat.zero_le _, by rw [i2]; simp [rowTo], i3, i4⟩
      rintro ⟨j, o', ao', co'⟩ ⟨j1, j2, j3, j4⟩
      dsimp only [List.cons_append, List.nil_append] at j1 j2 j3 j4 ⊢
      rw [← i2] at j2
      by_cases hj : j < row.length
      · obtain ⟨x, hx⟩ : ∃ x, row[j]? = some x := ⟨_, List.getElem?_eq_getElem hj⟩
        have hsn := rowTo_snoc (c := c) hx
        have hrl2 := rowTo_len c row (j + 1)
        rw [hsn, List.length_append] at hrl2
        have hol := congrArg List.length j2
        rw [List.length_append] at hol
        have hlx := edgesV_drop row j x hx
        have hsi : x.free = false → SetIn x.set := fun hf => ha.sets _ (sets_mem.2 ⟨row, List.mem_of_getElem? hrow, x, List.mem_of_getElem? hx, hf, rfl⟩)
        obtain ⟨k2, ⟨s1, s2, s3, s4⟩, xf⟩ := x
        dsimp only [edgeV] at hlx hsi hsn hrl2
        repeat (first
          | (show _ ∧ _; exact ⟨rfl, rfl, rfl⟩)
          | refine wkP ?_
          | (show OpOk _ _ _ _ _ _ _; first | refine opB (fun b => ?_) | refine opA (fun a' c' hc1 hc2 => ?_))
          | (show GJ _ _ _ _ _ _ _; first | (apply GJ.and; exact rfl; intro hg) | (apply GJ.or; exact rfl; intro hg)))
        rw [Int.toNat_natCast]
        refine OpOk.loadRow rfl rfl (LdN.at hrr hlx) rfl ?_
        cases xf with
        | true =>
          rw [if_neg (by simp), List.append_nil] at hsn
          repeat (first
            | (show _ ∧ _; exact ⟨rfl, rfl, rfl⟩)
            | refine wkP ?_
            | (show OpOk _ _ _ _ _ _ _; first | refine opB (fun b => ?_) | refine opA (fun a' c' hc1 hc2 => ?_))
            | (show GJ _ _ _ _ _ _ _; first | (apply GJ.and; exact rfl; intro hg) | (apply GJ.or; exact rfl; intro hg)))
          repeat (first
            | (show _ ∧ _; exact ⟨rfl, rfl, rfl⟩)
            | refine wkP ?_
            | (show OpOk _ _ _ _ _ _ _; first | refine opB (fun b => ?_) | refine opA (fun a' c' hc1 hc2 => ?_))
            | (show GJ _ _ _ _ _ _ _; first | (apply GJ.and; exact rfl; intro hg) | (apply GJ.or; exact rfl; intro hg)))
          refine Wk.id ⟨(j + 1, o', ao', co'), ⟨rfl, ?_⟩, ?_, Sub.auto, Sup.auto⟩
          all_goals try dsimp only
          · exact ⟨by omega, by rw [hsn, ← i2]; exact j2, j3, j4⟩
          · omega
        | false =>
          have hsi := hsi rfl
          repeat (first
            | (show _ ∧ _; exact ⟨rfl, rfl, rfl⟩)
            | refine wkP ?_
            | (show OpOk _ _ _ _ _ _ _; first | refine opB (fun b => ?_) | refine opA (fun a' c' hc1 hc2 => ?_))
            | (show GJ _ _ _ _ _ _ _; first | (apply GJ.and; exact rfl; intro hg) | (apply GJ.or; exact rfl; intro hg)))
          refine has_ok (s := ⟨s1, s2, s3, s4⟩) hsi hc ?_
          cases hb : SetD.has ⟨s1, s2, s3, s4⟩ c with
          | false =>
            rw [hb, if_neg (by simp), List.append_nil] at hsn
            repeat (first
              | (show _ ∧ _; exact ⟨rfl, rfl, rfl⟩)
              | refine wkP ?_
              | (show OpOk _ _ _ _ _ _ _; first | refine opB (fun b => ?_) | refine opA (fun a' c' hc1 hc2 => ?_))
              | (show GJ _ _ _ _ _ _ _; first | (apply GJ.and; exact rfl; intro hg) | (apply GJ.or; exact rfl; intro hg)))
            repeat (first
              | (show _ ∧ _; exact ⟨rfl, rfl, rfl⟩)
              | refine wkP ?_
              | (show OpOk _ _ _ _ _ _ _; first | refine opB (fun b => ?_) | refine opA (fun a' c' hc1 hc2 => ?_))
              | (show GJ _ _ _ _ _ _ _; first | (apply GJ.and; exact rfl; intro hg) | (apply GJ.or; exact rfl; intro hg)))
            refine Wk.id ⟨(j + 1, o', ao', co'), ⟨rfl, ?_⟩, ?_, Sub.auto, Sup.auto⟩
            all_goals try dsimp only
            · exact ⟨by omega, by rw [hsn, ← i2]; exact j2, j3, j4⟩
            · omega
          | true =>
            rw [hb, if_pos (by simp)] at hsn
            rw [hb, if_pos (by simp)] at hrl2
            have hl1 : ([Int.ofNat k2] : List Int).length = 1 := rfl
            rw [hl1] at hrl2
            have hs1 : o'.map (Value.int .i64) ++ [.int .i64 (k2 : Int)] = (o' ++ [(k2 : Int)]).map (Value.int .i64) := by simp
            have hs2 : o'.length + 1 = (o' ++ [(k2 : Int)]).length := by simp
            have hO : (o'.map (Value.int .i64)).length = o'.length := by simp
            repeat (first
              | (show _ ∧ _; exact ⟨rfl, rfl, rfl⟩)
              | refine wkP ?_
              | (show OpOk _ _ _ _ _ _ _; first | refine opB (fun b => ?_) | refine opA (fun a' c' hc1 hc2 => ?_))
              | (show GJ _ _ _ _ _ _ _; first | (apply GJ.and; exact rfl; intro hg) | (apply GJ.or; exact rfl; intro hg)))
            rw [hs1, hs2]
            rw [hs2] at hc1
            repeat (first
              | (show _ ∧ _; exact ⟨rfl, rfl, rfl⟩)
              | refine wkP ?_
              | (show OpOk _ _ _ _ _ _ _; first | refine opB (fun b => ?_) | refine opA (fun a' c' hc1 hc2 => ?_))
              | (show GJ _ _ _ _ _ _ _; first | (apply GJ.and; exact rfl; intro hg) | (apply GJ.or; exact rfl; intro hg)))
            refine Wk.id ⟨(j + 1, o' ++ [(k2 : Int)], a', c'), ⟨rfl, ?_⟩, ?_, Sub.auto, Sup.auto⟩
            all_goals try dsimp only
            · exact ⟨by omega, by rw [hsn, j2, List.append_assoc, ← i2]; rfl, hc1, hc2⟩
            · omega
      · obtain rfl : j = row.length := by omega
        rw [List.take_length] at j2
        repeat (first
          | (show _ ∧ _; exact ⟨rfl, rfl, rfl⟩)
          | refine wkP ?_
          | (show OpOk _ _ _ _ _ _ _; first | refine opB (fun b => ?_) | refine opA (fun a' c' hc1 hc2 => ?_))
          | (show GJ _ _ _ _ _ _ _; first | (apply GJ.and; exact rfl; intro hg) | (apply GJ.or; exact rfl; intro hg)))
        repeat (first
          | (show _ ∧ _; exact ⟨rfl, rfl, rfl⟩)
          | refine wkP ?_
          | (show OpOk _ _ _ _ _ _ _; first | refine opB (fun b => ?_) | refine opA (fun a' c' hc1 hc2 => ?_))
          | (show GJ _ _ _ _ _ _ _; first | (apply GJ.and; exact rfl; intro hg) | (apply GJ.or; exact rfl; intro hg)))
        refine Wk.id ⟨(i + 1, o', ao', co'), ⟨rfl, ?_⟩, ?_, Sub.auto, Sup.auto⟩
        all_goals try dsimp only
        · exact ⟨by omega, by rw [hfs, ← i2]; exact j2, j3, j4⟩
        · omega
  · obtain rfl : i = list.length := by omega
    rw [List.take_length] at i2
    subst i2
    repeat (first
      | (show _ ∧ _; exact ⟨rfl, rfl, rfl⟩)
      | refine wkP ?_
      | (show OpOk _ _ _ _ _ _ _; first | refine opB (fun b => ?_) | refine opA (fun a' c' hc1 hc2 => ?_))
      | (show GJ _ _ _ _ _ _ _; first | (apply GJ.and; exact rfl; intro hg) | (apply GJ.or; exact rfl; intro hg)))
    refine nreach_ok hv0 ha.ok (Rds.hasSl (t := 3) i3 i4 (by simp)) rfl (fun a' c' h1 h2 => ?_)
    repeat (first
      | (show _ ∧ _; exact ⟨rfl, rfl, rfl⟩)
      | refine wkP ?_
      | (show OpOk _ _ _ _ _ _ _; first | refine opB (fun b => ?_) | refine opA (fun a' c' hc1 hc2 => ?_))
      | (show GJ _ _ _ _ _ _ _; first | (apply GJ.and; exact rfl; intro hg) | (apply GJ.or; exact rfl; intro hg)))
    exact Wk.outS Sup.auto (.refl _) (hk a' c' h1 h2)
end
end Go.Proofs.Ytkpdnpcmeadggaa
/-! Contracts of nfa: Match. -/
namespace Go.Proofs.Ytkpdnpcmeadggaa
open Go Go.E
set_option linter.unusedVariables false
set_option linter.unusedSimpArgs false
set_option maxRecDepth 10000
theorem runN_snoc (a : NfaD) (l : List UInt8) (c : UInt8) : runN a (l ++ [c]) = stepN a.rows (intsN (runN a l)) c.toNat := by
  unfold runN; rw [List.foldl_append]; rfl
theorem start_sorted (rows : RowsN) : (startN rows).Pairwise (· < ·) := by
  unfold startN
  split
  · exact List.Pairwise.nil
  · exact reach_sorted _ _
theorem run_sorted (a : NfaD) : ∀ l : List UInt8, (runN a l).Pairwise (· < ·) := by
  intro l
  rcases List.eq_nil_or_concat l with rfl | ⟨m, c, rfl⟩
  · exact start_sorted _
  · rw [List.concat_eq_append, runN_snoc]; exact reach_sorted _ _
theorem start_lt {rows : RowsN} {j : Nat} (h : j ∈ startN rows) : j < rows.length := by
  unfold startN at h
  split at h
  · cases h
  · exact reach_lt h
theorem run_lt {a : NfaD} {l : List UInt8} {j : Nat} (h : j ∈ runN a l) : j < a.rows.length := by
  rcases List.eq_nil_or_concat l with rfl | ⟨m, c, rfl⟩
  · exact start_lt h
  · rw [List.concat_eq_append, runN_snoc] at h; exact reach_lt h
theorem sorted_len : ∀ (l : List Nat) (k n : Nat), l.Pairwise (· < ·) → (∀ x ∈ l, k ≤ x ∧ x < n) → l.length ≤ n - k
  | [], k, n, _, _ => Nat.zero_le _
  | x :: l, k, n, h, hk => by
    obtain ⟨h1, h2⟩ := List.pairwise_cons.1 h
    have ih := sorted_len l (x + 1) n h2 (fun y hy => ⟨h1 y hy, (hk y (List.mem_cons_of_mem _ hy)).2⟩)
    have := hk x (by simp)
    rw [List.length_cons]; omega
theorem run_len (a : NfaD) (l : List UInt8) : (runN a l).length ≤ a.rows.length := sorted_len _ 0 _ (run_sorted a l) (fun x hx => ⟨Nat.zero_le _, run_lt hx⟩)
section
variable {ro : Ro} {own r : Chs} {K : Value → Ro → Chs → Prop} {g : Chunk → Chs}
set_option maxHeartbeats 4000000 in
theorem nmatch_ok {a : NfaD} {v : List Value} {tx : List UInt8} {ab : Option Addr} {nb cb : Nat} (hv : AutoOk ro a v) (ha : AutoK a) (hb : Rds ro own ab nb cb 1 (tx.map u8)) (hnl : tx.length = nb) (hk : K (.bool (matchN a tx)) ro own) :
    CallOk Try.prog 13 #[.agg v.toArray, .slice ab nb cb] ro own K := by
  have hv0 := hv
  obtain ⟨ad, cp, hs, rfl, hrs, hrw⟩ := hv
  have hle := ha.ok.le
  have hmx := hb.max
  have hncl := hb.le
  have hmr := hrs.max
  have hncr := hrs.le
  unfold maxLen at hmx hmr
  subst hnl
  refine CallOk.intro (args := [_, _]) (rs := [_]) T_ok Try.func13 Try.call13 rfl rfl (by kernel_rfl) rfl rfl ?_
  repeat (first
    | (show _ ∧ _; exact ⟨rfl, rfl, rfl⟩)
    | refine wkP ?_
    | (show OpOk _ _ _ _ _ _ _; first | refine opB (fun b => ?_) | refine opA (fun a' c' hc1 hc2 => ?_))
    | (show GJ _ _ _ _ _ _ _; first | (apply GJ.and; exact rfl; intro hg) | (apply GJ.or; exact rfl; intro hg)))
  obtain ⟨b1, hb1⟩ : ∃ z : Nat, z = b := ⟨_, rfl⟩
  subst hb1
  refine nstart_ok hv0 ha.ok (fun a0 c0 h1 h2 => ?_)
  repeat (first
    | (show _ ∧ _; exact ⟨rfl, rfl, rfl⟩)
    | refine wkP ?_
    | (show OpOk _ _ _ _ _ _ _; first | refine opB (fun b => ?_) | refine opA (fun a' c' hc1 hc2 => ?_))
    | (show GJ _ _ _ _ _ _ _; first | (apply GJ.and; exact rfl; intro hg) | (apply GJ.or; exact rfl; intro hg)))
  refine LoopOk.at (ι := Nat × Option Addr × Nat) Keep.auto (fun (i, al, cl) => [(12, .int .i64 (i : Int)), (5, .slice al (runN a (tx.take i)).length cl)]) (fun (i, al, cl) => .sl al (runN a (tx.take i)).length cl 3 1 (natsV (runN a (tx.take i))) :: .blk b1 34 [.slice ad a.rows.length cp, .int .i64 a.last] :: own) (fun (i, al, cl) => i ≤ tx.length ∧ (runN a (tx.take i)).length ≤ cl ∧ cl ≤ maxLen) (fun (i, al, cl) => tx.length - i) (0, a0, c0) ?_ Sub.auto Sup.auto ?_
  · exact ⟨Nat.zero_le _, h1, h2⟩
  rintro ⟨i, al, cl⟩ ⟨i1, i2, i3⟩
  dsimp only [List.cons_append, List.nil_append] at i1 i2 i3 ⊢
  by_cases hi : i < tx.length
  · obtain ⟨z, hz⟩ : ∃ z, tx[i]? = some z := ⟨_, List.getElem?_eq_getElem hi⟩
    have htk : tx.take (i + 1) = tx.take i ++ [z] := by rw [List.take_add_one, hz]; rfl
    have hrn := runN_snoc a (tx.take i) z
    rw [← htk] at hrn
    have hso := run_sorted a (tx.take i)
    have hln := run_len a (tx.take i)
    have hsl := step_len (rows := a.rows) (c := z.toNat) hso
    have hed := ha.edges
    have hzb : tx[((i : Nat) : Int).toNat]! = z := by rw [Int.toNat_natCast, List.getElem!_eq_getElem?_getD, hz]; rfl
    generalize runN a (tx.take i) = R at *
    generalize hR2 : runN a (tx.take (i + 1)) = R2 at *
    repeat (first
      | (show _ ∧ _; exact ⟨rfl, rfl, rfl⟩)
      | refine wkP ?_
      | (show OpOk _ _ _ _ _ _ _; first | refine opB (fun b => ?_) | refine opA (fun a' c' hc1 hc2 => ?_))
      | (show GJ _ _ _ _ _ _ _; first | (apply GJ.and; exact rfl; intro hg) | (apply GJ.or; exact rfl; intro hg)))
    rw [hzb]
    refine nstep_ok (list := intsN R) (c := z.toNat) hv0 ha (by rw [ints_nats]; exact Rds.hasSl i2 i3 (by simp [natsV])) (ints_len R) (UInt8.toNat_lt z) (by omega) (fun a2 c2 g1 g2 => ?_)
    rw [← hrn] at *
    repeat (first
      | (show _ ∧ _; exact ⟨rfl, rfl, rfl⟩)
      | refine wkP ?_
      | (show OpOk _ _ _ _ _ _ _; first | refine opB (fun b => ?_) | refine opA (fun a' c' hc1 hc2 => ?_))
      | (show GJ _ _ _ _ _ _ _; first | (apply GJ.and; exact rfl; intro hg) | (apply GJ.or; exact rfl; intro hg)))
    subst hR2
    refine Wk.id ⟨(i + 1, a2, c2), ⟨rfl, ?_⟩, ?_, Sub.auto, Sup.auto⟩
    all_goals try dsimp only
    · exact ⟨by omega, g1, g2⟩
    · omega
  · obtain rfl : i = tx.length := by omega
    rw [List.take_length] at *
    unfold matchN at hk
    repeat (first
      | (show _ ∧ _; exact ⟨rfl, rfl, rfl⟩)
      | refine wkP ?_
      | (show OpOk _ _ _ _ _ _ _; first | refine opB (fun b => ?_) | refine opA (fun a' c' hc1 hc2 => ?_))
      | (show GJ _ _ _ _ _ _ _; first | (apply GJ.and; exact rfl; intro hg) | (apply GJ.or; exact rfl; intro hg)))
    refine nends_ok (list := intsN (runN a tx)) hv0 ha.ok (by rw [ints_nats]; exact Rds.hasSl i2 i3 (by simp [natsV])) (ints_len _) ?_
    repeat (first
      | (show _ ∧ _; exact ⟨rfl, rfl, rfl⟩)
      | refine wkP ?_
      | (show OpOk _ _ _ _ _ _ _; first | refine opB (fun b => ?_) | refine opA (fun a' c' hc1 hc2 => ?_))
      | (show GJ _ _ _ _ _ _ _; first | (apply GJ.and; exact rfl; intro hg) | (apply GJ.or; exact rfl; intro hg)))
    exact Wk.outS Sup.auto (.refl _) hk
end
end Go.Proofs.Ytkpdnpcmeadggaa
/-! Contracts of nfa's laws: few. -/
namespace Go.Proofs.Ytkpdnpcmeadggaa
open Go Go.E
set_option linter.unusedVariables false
set_option linter.unusedSimpArgs false
set_option maxRecDepth 10000
structure FwC (n : RgD) : Prop where
  run : ∀ {ro : Ro} {r : Chs} {K : Value → Ro → Chs → Prop} {p : Nat} {v : List Value} {M : Int}, RgOk ro n v → 0 ≤ M → M ≤ 100000 → K (.bool (fewX 6 8 n M).1) ro (.blk p 3 [.int .i64 (fewX 6 8 n M).2] :: r) →
    CallOk Try.prog 6 #[.agg v.toArray, ptr' p] ro (.blk p 3 [.int .i64 M] :: r) K
set_option maxHeartbeats 16000000 in
theorem fwC : ∀ n, FwC n := RgD.ind fun k z l x y ih => ⟨fun {ro r K p v M} hv hM hM2 hk => by
  rw [RgOk] at hv
  obtain ⟨ad, cp, cs, rfl, hs, hrs, hks⟩ := hv
  have hle := hrs.le
  have hmx := hrs.max
  unfold maxLen at hmx
  rw [fewX] at hk
  dsimp only at hk
  by_cases h0 : M - 1 < 0
  · rw [if_pos (.inl (.inl h0))] at hk
    refine CallOk.intro (args := [_, _]) (rs := [_]) T_ok Try.func6 Try.call6 rfl rfl (by kernel_rfl) rfl rfl ?_
    repeat (first
      | (show _ ∧ _; exact ⟨rfl, rfl, rfl⟩)
      | refine wkP ?_
      | (show OpOk _ _ _ _ _ _ _; first | refine opB (fun b => ?_) | refine opA (fun a' c' hc1 hc2 => ?_))
      | (show GJ _ _ _ _ _ _ _; first | (apply GJ.and; exact rfl; intro hg) | (apply GJ.or; exact rfl; intro hg)))
    exact Wk.outS Sup.auto (.refl _) hk
  by_cases h100 : 30 < l.length
  · rw [if_pos (.inl (.inr h100))] at hk
    refine CallOk.intro (args := [_, _]) (rs := [_]) T_ok Try.func6 Try.call6 rfl rfl (by kernel_rfl) rfl rfl ?_
    repeat (first
      | (show _ ∧ _; exact ⟨rfl, rfl, rfl⟩)
      | refine wkP ?_
      | (show OpOk _ _ _ _ _ _ _; first | refine opB (fun b => ?_) | refine opA (fun a' c' hc1 hc2 => ?_))
      | (show GJ _ _ _ _ _ _ _; first | (apply GJ.and; exact rfl; intro hg) | (apply GJ.or; exact rfl; intro hg)))
    exact Wk.outS Sup.auto (.refl _) hk
  by_cases hk5 : k = 5 ∧ (6 < x ∨ 8 < y)
  · rw [if_pos (.inr hk5)] at hk
    obtain ⟨rfl, hk6⟩ := hk5
    by_cases hx6 : 6 < x
    · refine CallOk.intro (args := [_, _]) (rs := [_]) T_ok Try.func6 Try.call6 rfl rfl (by kernel_rfl) rfl rfl ?_
      repeat (first
        | (show _ ∧ _; exact ⟨rfl, rfl, rfl⟩)
        | refine wkP ?_
        | (show OpOk _ _ _ _ _ _ _; first | refine opB (fun b => ?_) | refine opA (fun a' c' hc1 hc2 => ?_))
        | (show GJ _ _ _ _ _ _ _; first | (apply GJ.and; exact rfl; intro hg) | (apply GJ.or; exact rfl; intro hg)))
      exact Wk.outS Sup.auto (.refl _) hk
    · have hy8 : 8 < y := hk6.resolve_left hx6
      refine CallOk.intro (args := [_, _]) (rs := [_]) T_ok Try.func6 Try.call6 rfl rfl (by kernel_rfl) rfl rfl ?_
      repeat (first
        | (show _ ∧ _; exact ⟨rfl, rfl, rfl⟩)
        | refine wkP ?_
        | (show OpOk _ _ _ _ _ _ _; first | refine opB (fun b => ?_) | refine opA (fun a' c' hc1 hc2 => ?_))
        | (show GJ _ _ _ _ _ _ _; first | (apply GJ.and; exact rfl; intro hg) | (apply GJ.or; exact rfl; intro hg)))
      exact Wk.outS Sup.auto (.refl _) hk
  rw [if_neg (fun z => z.elim (fun u => u.elim h0 h100) hk5)] at hk
  refine CallOk.intro (args := [_, _]) (rs := [_]) T_ok Try.func6 Try.call6 rfl rfl (by kernel_rfl) rfl rfl ?_
  repeat (first
    | (show _ ∧ _; exact ⟨rfl, rfl, rfl⟩)
    | refine wkP ?_
    | (show OpOk _ _ _ _ _ _ _; first | refine opB (fun b => ?_) | refine opA (fun a' c' hc1 hc2 => ?_))
    | (show GJ _ _ _ _ _ _ _; first | (apply GJ.and; exact rfl; intro hg) | (apply GJ.or; exact rfl; intro hg)))
  refine LoopOk.at (ι := Nat × Int) Keep.auto (fun (i, Mi) => [(40, .int .i64 (i : Int))]) (fun (i, Mi) => .blk p 3 [.int .i64 Mi] :: r) (fun (i, Mi) => i ≤ l.length ∧ 0 ≤ Mi ∧ Mi ≤ M - 1 ∧ fewY 6 8 l (M - 1) = fewY 6 8 (l.drop i) Mi) (fun (i, Mi) => l.length - i) (0, M - 1) ?_ Sub.auto Sup.auto ?_
  · exact ⟨Nat.zero_le _, by omega, Int.le_refl _, by simp⟩
  rintro ⟨i, Mi⟩ ⟨i1, i2, i3, i4⟩
  dsimp only [List.cons_append, List.nil_append] at i1 i2 i3 i4 ⊢
  by_cases hi : i < l.length
  · obtain ⟨kd, hkd⟩ : ∃ kd, l[i]? = some kd := ⟨_, List.getElem?_eq_getElem hi⟩
    have hvv := hks.get hkd
    obtain ⟨ak, ck, hvk⟩ := hvv.cells
    rw [hvk] at hvv
    have hdr : l.drop i = kd :: l.drop (i + 1) := by
      rw [List.drop_eq_getElem_cons hi]
      congr 1
      rw [List.getElem?_eq_getElem hi] at hkd
      exact Option.some.inj hkd
    rw [hdr, fewY] at i4
    dsimp only at i4
    have hleft := fewX_left (mn := 6) (mx := 8) kd Mi
    repeat (first
      | (show _ ∧ _; exact ⟨rfl, rfl, rfl⟩)
      | refine wkP ?_
      | (show OpOk _ _ _ _ _ _ _; first | refine opB (fun b => ?_) | refine opA (fun a' c' hc1 hc2 => ?_))
      | (show GJ _ _ _ _ _ _ _; first | (apply GJ.and; exact rfl; intro hg) | (apply GJ.or; exact rfl; intro hg)))
    rw [Int.toNat_natCast]
    refine OpOk.loadRow rfl rfl (LdN.at hrs hvk) rfl ?_
    repeat (first
      | (show _ ∧ _; exact ⟨rfl, rfl, rfl⟩)
      | refine wkP ?_
      | (show OpOk _ _ _ _ _ _ _; first | refine opB (fun b => ?_) | refine opA (fun a' c' hc1 hc2 => ?_))
      | (show GJ _ _ _ _ _ _ _; first | (apply GJ.and; exact rfl; intro hg) | (apply GJ.or; exact rfl; intro hg)))
    refine CallOk.sup (own0 := .blk p 3 [.int .i64 Mi] :: r) Sup.auto ?_
    refine (ih kd (List.mem_of_getElem? hkd)).run hvv i2 (by omega) ?_
    generalize fewX 6 8 kd Mi = R at i4 hleft ⊢
    obtain ⟨R1, R2⟩ := R
    dsimp only at i4 hleft ⊢
    cases R1 with
    | true =>
      rw [if_pos rfl] at i4
      obtain ⟨h5, h6⟩ := hleft rfl
      repeat (first
        | (show _ ∧ _; exact ⟨rfl, rfl, rfl⟩)
        | refine wkP ?_
        | (show OpOk _ _ _ _ _ _ _; first | refine opB (fun b => ?_) | refine opA (fun a' c' hc1 hc2 => ?_))
        | (show GJ _ _ _ _ _ _ _; first | (apply GJ.and; exact rfl; intro hg) | (apply GJ.or; exact rfl; intro hg)))
      refine Wk.id ⟨(i + 1, R2), ⟨rfl, ?_⟩, ?_, Sub.auto, Sup.auto⟩
      all_goals try dsimp only
      · exact ⟨by omega, h5, by omega, i4⟩
      · omega
    | false =>
      rw [if_neg (by decide)] at i4
      rw [i4] at hk
      repeat (first
        | (show _ ∧ _; exact ⟨rfl, rfl, rfl⟩)
        | refine wkP ?_
        | (show OpOk _ _ _ _ _ _ _; first | refine opB (fun b => ?_) | refine opA (fun a' c' hc1 hc2 => ?_))
        | (show GJ _ _ _ _ _ _ _; first | (apply GJ.and; exact rfl; intro hg) | (apply GJ.or; exact rfl; intro hg)))
      exact Wk.outS Sup.auto (.refl _) hk
  · obtain rfl : i = l.length := by omega
    rw [List.drop_length, fewY] at i4
    dsimp only at i4
    rw [i4] at hk
    repeat (first
      | (show _ ∧ _; exact ⟨rfl, rfl, rfl⟩)
      | refine wkP ?_
      | (show OpOk _ _ _ _ _ _ _; first | refine opB (fun b => ?_) | refine opA (fun a' c' hc1 hc2 => ?_))
      | (show GJ _ _ _ _ _ _ _; first | (apply GJ.and; exact rfl; intro hg) | (apply GJ.or; exact rfl; intro hg)))
    exact Wk.outS Sup.auto (.refl _) hk⟩
end Go.Proofs.Ytkpdnpcmeadggaa
