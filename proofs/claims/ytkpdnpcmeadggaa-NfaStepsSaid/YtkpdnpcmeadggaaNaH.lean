/- The law NfaSteps: its walk. -/
import Derived.Test.YtkpdnpcmeadggaaNaG
namespace Go.Proofs.Ytkpdnpcmeadggaa
open Go Go.E
set_option linter.unusedVariables false
set_option linter.unusedSimpArgs false
set_option maxRecDepth 10000
section
variable {ro : Ro} {own r : Chs} {K : Value → Ro → Chs → Prop} {g : Chunk → Chs}
set_option maxHeartbeats 8000000 in
theorem nsteps_law {n : RgD} {v : List Value} {tx : List UInt8} {ab : Option Addr} {nb cb : Nat} (hv : RgOk ro n v) (hb : Bys ro ab nb cb tx) (hk : K (.bool true) ro own) : CallOk Try.prog 4 #[.agg v.toArray, .slice ab nb cb] ro own K := by
  refine CallOk.back ?_
  have hin := rg_ins hv
  obtain ⟨a1, c1, hvc⟩ := hv.cells
  have hv0 := hv
  subst hvc
  have hmx := hb.max
  have hncl := hb.le
  unfold maxLen at hmx
  have hnb := hb.n1
  obtain rfl : tx.length = nb := by simpa using hnb
  have hsz := fewX_size (mn := 6) (mx := 8) n 30
  refine CallOk.intro (args := [_, _]) (rs := [_]) T_ok Try.func4 Try.call4 rfl rfl (by kernel_rfl) rfl rfl ?_
  repeat (first
    | (show _ ∧ _; exact ⟨rfl, rfl, rfl⟩)
    | refine wkP ?_
    | (show OpOk _ _ _ _ _ _ _; first | refine opB (fun b => ?_) | refine opA (fun a' c' hc1 hc2 => ?_))
    | (show GJ _ _ _ _ _ _ _; first | (apply GJ.and; exact rfl; intro hg) | (apply GJ.or; exact rfl; intro hg)))
  refine nruns_ok (fun ro1 hl1 => ?_)
  repeat (first
    | (show _ ∧ _; exact ⟨rfl, rfl, rfl⟩)
    | refine wkP ?_
    | (show OpOk _ _ _ _ _ _ _; first | refine opB (fun b => ?_) | refine opA (fun a' c' hc1 hc2 => ?_))
    | (show GJ _ _ _ _ _ _ _; first | (apply GJ.and; exact rfl; intro hg) | (apply GJ.or; exact rfl; intro hg)))
  refine (fwC n).run (hv0.le hl1) (by decide) (by decide) ?_
  generalize fewX 6 8 n 30 = F at *
  obtain ⟨f1, f2⟩ := F
  dsimp only at hsz ⊢
  cases f1 with
  | false =>
    repeat (first
      | (show _ ∧ _; exact ⟨rfl, rfl, rfl⟩)
      | refine wkP ?_
      | (show OpOk _ _ _ _ _ _ _; first | refine opB (fun b => ?_) | refine opA (fun a' c' hc1 hc2 => ?_))
      | (show GJ _ _ _ _ _ _ _; first | (apply GJ.and; exact rfl; intro hg) | (apply GJ.or; exact rfl; intro hg)))
    exact Wk.back1 Sup.auto (.refl _) hk
  | true =>
    have hsz := hsz rfl
    by_cases h30 : 30 < tx.length
    · repeat (first
        | (show _ ∧ _; exact ⟨rfl, rfl, rfl⟩)
        | refine wkP ?_
        | (show OpOk _ _ _ _ _ _ _; first | refine opB (fun b => ?_) | refine opA (fun a' c' hc1 hc2 => ?_))
        | (show GJ _ _ _ _ _ _ _; first | (apply GJ.and; exact rfl; intro hg) | (apply GJ.or; exact rfl; intro hg)))
      exact Wk.back1 Sup.auto (.refl _) hk
    repeat (first
      | (show _ ∧ _; exact ⟨rfl, rfl, rfl⟩)
      | refine wkP ?_
      | (show OpOk _ _ _ _ _ _ _; first | refine opB (fun b => ?_) | refine opA (fun a' c' hc1 hc2 => ?_))
      | (show GJ _ _ _ _ _ _ _; first | (apply GJ.and; exact rfl; intro hg) | (apply GJ.or; exact rfl; intro hg)))
    refine nmake_ok (hv0.le hl1) (fun ro2 v2 hl2 hA => ?_)
    have hA0 := hA
    have hK := make_k hin
    generalize (makeN n).2 = a at *
    obtain ⟨ad, cp, hs, rfl, hrs, hrw⟩ := hA
    by_cases h1 : ¬ (makeN n).1 = 0
    · repeat (first
        | (show _ ∧ _; exact ⟨rfl, rfl, rfl⟩)
        | refine wkP ?_
        | (show OpOk _ _ _ _ _ _ _; first | refine opB (fun b => ?_) | refine opA (fun a' c' hc1 hc2 => ?_))
        | (show GJ _ _ _ _ _ _ _; first | (apply GJ.and; exact rfl; intro hg) | (apply GJ.or; exact rfl; intro hg)))
      exact Wk.back1 Sup.auto (.refl _) hk
    have h1 := Decidable.of_not_not h1
    rw [h1]
    repeat (first
      | (show _ ∧ _; exact ⟨rfl, rfl, rfl⟩)
      | refine wkP ?_
      | (show OpOk _ _ _ _ _ _ _; first | refine opB (fun b => ?_) | refine opA (fun a' c' hc1 hc2 => ?_))
      | (show GJ _ _ _ _ _ _ _; first | (apply GJ.and; exact rfl; intro hg) | (apply GJ.or; exact rfl; intro hg)))
    obtain ⟨bA, hbA⟩ : ∃ z : Nat, z = b := ⟨_, rfl⟩
    subst hbA
    refine nstart_ok hA0 hK.ok (fun a0 c0 g1 g2 => ?_)
    have hb1 : Bys ro1 ab tx.length cb tx := Rs.up hb
    have hb2 : Bys ro2 ab tx.length cb tx := Rs.up hb1
    have hle := hK.ok.le
    have hto := hK.ok.to
    have hed := hK.edges
    repeat (first
      | (show _ ∧ _; exact ⟨rfl, rfl, rfl⟩)
      | refine wkP ?_
      | (show OpOk _ _ _ _ _ _ _; first | refine opB (fun b => ?_) | refine opA (fun a' c' hc1 hc2 => ?_))
      | (show GJ _ _ _ _ _ _ _; first | (apply GJ.and; exact rfl; intro hg) | (apply GJ.or; exact rfl; intro hg)))
    refine LoopOk.at (ι := Nat × Option Addr × Nat) Keep.auto (fun (i, al, cl) => [(9, .int .i64 (i : Int)), (8, .slice al (runN a (tx.take i)).length cl)]) (fun (i, al, cl) => .sl al (runN a (tx.take i)).length cl 3 1 (natsV (runN a (tx.take i))) :: .blk bA 34 [.slice ad a.rows.length cp, .int .i64 a.last] :: own) (fun (i, al, cl) => i ≤ tx.length ∧ (runN a (tx.take i)).length ≤ cl ∧ cl ≤ maxLen) (fun (i, al, cl) => tx.length - i) (0, a0, c0) ?_ Sub.auto Sup.auto ?_
    · exact ⟨Nat.zero_le _, g1, g2⟩
    rintro ⟨i, al, cl⟩ ⟨i1, i2, i3⟩
    dsimp only [List.cons_append, List.nil_append] at i1 i2 i3 ⊢
    have hso := run_sorted a (tx.take i)
    have hln := run_len a (tx.take i)
    have hag := run_again hto (tx.take i)
    have hmt : endsN a (intsN (runN a (tx.take i))) = matchN a (tx.take i) := rfl
    have hlt := fun x (hx : x ∈ runN a (tx.take i)) => run_lt hx
    have hRd : Rds ro2 (.sl al (runN a (tx.take i)).length cl 3 1 (natsV (runN a (tx.take i))) :: .blk bA 34 [.slice ad a.rows.length cp, .int .i64 a.last] :: own) al (runN a (tx.take i)).length cl 1 ((intsN (runN a (tx.take i))).map (Value.int .i64)) := by
      rw [ints_nats]; exact Rds.hasSl i2 i3 (by simp [natsV])
    repeat (first
      | (show _ ∧ _; exact ⟨rfl, rfl, rfl⟩)
      | refine wkP ?_
      | (show OpOk _ _ _ _ _ _ _; first | refine opB (fun b => ?_) | refine opA (fun a' c' hc1 hc2 => ?_))
      | (show GJ _ _ _ _ _ _ _; first | (apply GJ.and; exact rfl; intro hg) | (apply GJ.or; exact rfl; intro hg)))
    refine sortedI_ok hRd rfl hso ?_
    repeat (first
      | (show _ ∧ _; exact ⟨rfl, rfl, rfl⟩)
      | refine wkP ?_
      | (show OpOk _ _ _ _ _ _ _; first | refine opB (fun b => ?_) | refine opA (fun a' c' hc1 hc2 => ?_))
      | (show GJ _ _ _ _ _ _ _; first | (apply GJ.and; exact rfl; intro hg) | (apply GJ.or; exact rfl; intro hg)))
    refine nends_ok (list := intsN (runN a (tx.take i))) hA0 hK.ok hRd (ints_len _) ?_
    rw [hmt]
    repeat (first
      | (show _ ∧ _; exact ⟨rfl, rfl, rfl⟩)
      | refine wkP ?_
      | (show OpOk _ _ _ _ _ _ _; first | refine opB (fun b => ?_) | refine opA (fun a' c' hc1 hc2 => ?_))
      | (show GJ _ _ _ _ _ _ _; first | (apply GJ.and; exact rfl; intro hg) | (apply GJ.or; exact rfl; intro hg)))
    have hcut := Rs.cutB hb2 (lo := 0) (hi := (i : Int)) ⟨by omega, by omega, by omega⟩
    rw [show (tx.drop (0 : Int).toNat).take ((i : Int).toNat - (0 : Int).toNat) = tx.take i by simp] at hcut
    refine nmatch_ok (tx := tx.take i) hA0 hK hcut.rds (by simp; omega) ?_
    repeat (first
      | (show _ ∧ _; exact ⟨rfl, rfl, rfl⟩)
      | refine wkP ?_
      | (show OpOk _ _ _ _ _ _ _; first | refine opB (fun b => ?_) | refine opA (fun a' c' hc1 hc2 => ?_))
      | (show GJ _ _ _ _ _ _ _; first | (apply GJ.and; exact rfl; intro hg) | (apply GJ.or; exact rfl; intro hg)))
    refine GJ.ff (fun h => h rfl) ?_
    repeat (first
      | (show _ ∧ _; exact ⟨rfl, rfl, rfl⟩)
      | refine wkP ?_
      | (show OpOk _ _ _ _ _ _ _; first | refine opB (fun b => ?_) | refine opA (fun a' c' hc1 hc2 => ?_))
      | (show GJ _ _ _ _ _ _ _; first | (apply GJ.and; exact rfl; intro hg) | (apply GJ.or; exact rfl; intro hg)))
    refine nreach_ok (list := intsN (runN a (tx.take i))) hA0 hK.ok hRd (ints_len _) (fun ar cr r1 r2 => ?_)
    rw [hag] at r1 ⊢
    repeat (first
      | (show _ ∧ _; exact ⟨rfl, rfl, rfl⟩)
      | refine wkP ?_
      | (show OpOk _ _ _ _ _ _ _; first | refine opB (fun b => ?_) | refine opA (fun a' c' hc1 hc2 => ?_))
      | (show GJ _ _ _ _ _ _ _; first | (apply GJ.and; exact rfl; intro hg) | (apply GJ.or; exact rfl; intro hg)))
    refine equalI_ok (l := intsN (runN a (tx.take i))) (m := intsN (runN a (tx.take i))) (by rw [ints_nats]; exact Rds.hasSl r1 r2 (by simp [natsV])) (by rw [ints_nats]; exact Rds.hasSl i2 i3 (by simp [natsV])) (ints_len _) (ints_len _) (fun q hq => ?_)
    obtain rfl : q = true := hq.2 rfl
    repeat (first
      | (show _ ∧ _; exact ⟨rfl, rfl, rfl⟩)
      | refine wkP ?_
      | (show OpOk _ _ _ _ _ _ _; first | refine opB (fun b => ?_) | refine opA (fun a' c' hc1 hc2 => ?_))
      | (show GJ _ _ _ _ _ _ _; first | (apply GJ.and; exact rfl; intro hg) | (apply GJ.or; exact rfl; intro hg)))
    refine LoopOk.at (ι := Nat) Keep.auto (fun k => [(10, .int .i64 (k : Int))]) (fun k => .sl al (runN a (tx.take i)).length cl 3 1 (natsV (runN a (tx.take i))) :: .blk bA 34 [.slice ad a.rows.length cp, .int .i64 a.last] :: own) (fun k => 1 ≤ k ∧ k ≤ (runN a (tx.take i)).length + 1) (fun k => (runN a (tx.take i)).length + 1 - k) 1 ?_ Sub.auto Sup.auto ?_
    · exact ⟨Nat.le_refl _, by omega⟩
    rintro k ⟨k1, k2⟩
    dsimp only [List.cons_append, List.nil_append] at k1 k2 ⊢
    by_cases hkl : k < (runN a (tx.take i)).length
    · obtain ⟨j, rfl⟩ : ∃ j, k = j + 1 := ⟨k - 1, by omega⟩
      obtain ⟨x, hx⟩ : ∃ x, (runN a (tx.take i))[j]? = some x := ⟨_, List.getElem?_eq_getElem (by omega)⟩
      obtain ⟨y, hy⟩ : ∃ y, (runN a (tx.take i))[j + 1]? = some y := ⟨_, List.getElem?_eq_getElem (by omega)⟩
      have hxy : x < y := by
        obtain ⟨g1, g2⟩ := List.getElem?_eq_some_iff.1 hx
        obtain ⟨g3, g4⟩ := List.getElem?_eq_some_iff.1 hy
        rw [← g2, ← g4]
        exact List.pairwise_iff_getElem.1 hso j (j + 1) g1 g3 (Nat.lt_succ_self j)
      have hyl := hlt y (List.mem_of_getElem? hy)
      have hgy : (runN a (tx.take i))[((j + 1 : Nat) : Int).toNat]! = y := by
        rw [Int.toNat_natCast, List.getElem!_eq_getElem?_getD, hy]; rfl
      have hgx : (runN a (tx.take i))[(((j + 1 : Nat) : Int) - 1).toNat]! = x := by
        rw [show (((j + 1 : Nat) : Int) - 1).toNat = j by omega, List.getElem!_eq_getElem?_getD, hx]; rfl
      repeat (first
        | (show _ ∧ _; exact ⟨rfl, rfl, rfl⟩)
        | refine wkP ?_
        | (show OpOk _ _ _ _ _ _ _; first | refine opB (fun b => ?_) | refine opA (fun a' c' hc1 hc2 => ?_))
        | (show GJ _ _ _ _ _ _ _; first | (apply GJ.and; exact rfl; intro hg) | (apply GJ.or; exact rfl; intro hg)))
      refine nlen_ok hA0 ?_
      repeat (first
        | (show _ ∧ _; exact ⟨rfl, rfl, rfl⟩)
        | refine wkP ?_
        | (show OpOk _ _ _ _ _ _ _; first | refine opB (fun b => ?_) | refine opA (fun a' c' hc1 hc2 => ?_))
        | (show GJ _ _ _ _ _ _ _; first | (apply GJ.and; exact rfl; intro hg) | (apply GJ.or; exact rfl; intro hg)))
      repeat (first
        | (show _ ∧ _; exact ⟨rfl, rfl, rfl⟩)
        | refine wkP ?_
        | (show OpOk _ _ _ _ _ _ _; first | refine opB (fun b => ?_) | refine opA (fun a' c' hc1 hc2 => ?_))
        | (show GJ _ _ _ _ _ _ _; first | (apply GJ.and; exact rfl; intro hg) | (apply GJ.or; exact rfl; intro hg)))
      refine Wk.id ⟨j + 1 + 1, ⟨rfl, ?_⟩, ?_, Sub.auto, Sup.auto⟩
      all_goals try dsimp only
      · exact ⟨by omega, by omega⟩
      · omega
    · by_cases hi : i < tx.length
      · obtain ⟨z, hz⟩ : ∃ z, tx[i]? = some z := ⟨_, List.getElem?_eq_getElem hi⟩
        have htk : tx.take (i + 1) = tx.take i ++ [z] := by rw [List.take_add_one, hz]; rfl
        have hrn := runN_snoc a (tx.take i) z
        rw [← htk] at hrn
        have hstl := step_len (rows := a.rows) (c := z.toNat) hso
        have hzb : tx[((i : Nat) : Int).toNat]! = z := by rw [Int.toNat_natCast, List.getElem!_eq_getElem?_getD, hz]; rfl
        repeat (first
          | (show _ ∧ _; exact ⟨rfl, rfl, rfl⟩)
          | refine wkP ?_
          | (show OpOk _ _ _ _ _ _ _; first | refine opB (fun b => ?_) | refine opA (fun a' c' hc1 hc2 => ?_))
          | (show GJ _ _ _ _ _ _ _; first | (apply GJ.and; exact rfl; intro hg) | (apply GJ.or; exact rfl; intro hg)))
        rw [hzb]
        refine nstep_ok (list := intsN (runN a (tx.take i))) (c := z.toNat) hA0 hK hRd (ints_len _) (UInt8.toNat_lt z) (by omega) (fun a2 c2 g1 g2 => ?_)
        rw [← hrn] at g1 ⊢
        repeat (first
          | (show _ ∧ _; exact ⟨rfl, rfl, rfl⟩)
          | refine wkP ?_
          | (show OpOk _ _ _ _ _ _ _; first | refine opB (fun b => ?_) | refine opA (fun a' c' hc1 hc2 => ?_))
          | (show GJ _ _ _ _ _ _ _; first | (apply GJ.and; exact rfl; intro hg) | (apply GJ.or; exact rfl; intro hg)))
        repeat (first
          | (show _ ∧ _; exact ⟨rfl, rfl, rfl⟩)
          | refine wkP ?_
          | (show OpOk _ _ _ _ _ _ _; first | refine opB (fun b => ?_) | refine opA (fun a' c' hc1 hc2 => ?_))
          | (show GJ _ _ _ _ _ _ _; first | (apply GJ.and; exact rfl; intro hg) | (apply GJ.or; exact rfl; intro hg)))
        refine Wk.id ⟨(i + 1, a2, c2), ⟨rfl, ?_⟩, ?_, Sub.auto, Sup.auto⟩
        all_goals try dsimp only
        · exact ⟨by omega, g1, g2⟩
        · omega
      · obtain rfl : i = tx.length := by omega
        have s1 : stepN a.rows [] 97 = [] := step_none hto (fun z hz => by cases hz)
        have s2 : stepN a.rows [-1, (a.rows.length : Int)] 97 = [] := step_none hto (fun z hz => by
          rcases List.mem_cons.1 hz with rfl | hz
          · exact .inl (by decide)
          · rw [List.mem_singleton] at hz; subst hz; exact .inr (Int.le_refl _))
        have s3 : reachN a.rows [-5] = [] := reach_none hto (fun z hz => by rw [List.mem_singleton] at hz; omega)
        have f1 : (([] : List Int).flatMap (byteTo a.rows 97)).length ≤ 1000000 := by simp
        have f2 : (([-1, (a.rows.length : Int)] : List Int).flatMap (byteTo a.rows 97)).length ≤ 1000000 := by
          have : ∀ z : Int, z < 0 ∨ (a.rows.length : Int) ≤ z → byteTo a.rows 97 z = [] := fun z hz => by unfold byteTo; rw [if_neg (by omega)]
          simp [this (-1) (.inl (by decide)), this (a.rows.length : Int) (.inr (Int.le_refl _))]
        repeat (first
          | (show _ ∧ _; exact ⟨rfl, rfl, rfl⟩)
          | refine wkP ?_
          | (show OpOk _ _ _ _ _ _ _; first | refine opB (fun b => ?_) | refine opA (fun a' c' hc1 hc2 => ?_))
          | (show GJ _ _ _ _ _ _ _; first | (apply GJ.and; exact rfl; intro hg) | (apply GJ.or; exact rfl; intro hg)))
        refine nstep_ok (list := []) (c := 97) hA0 hK (Rds.nil _ _ _) rfl (by decide) f1 (fun a5 c5 u1 u2 => ?_)
        rw [s1] at u1 ⊢
        repeat (first
          | (show _ ∧ _; exact ⟨rfl, rfl, rfl⟩)
          | refine wkP ?_
          | (show OpOk _ _ _ _ _ _ _; first | refine opB (fun b => ?_) | refine opA (fun a' c' hc1 hc2 => ?_))
          | (show GJ _ _ _ _ _ _ _; first | (apply GJ.and; exact rfl; intro hg) | (apply GJ.or; exact rfl; intro hg)))
        refine nlen_ok hA0 ?_
        repeat (first
          | (show _ ∧ _; exact ⟨rfl, rfl, rfl⟩)
          | refine wkP ?_
          | (show OpOk _ _ _ _ _ _ _; first | refine opB (fun b => ?_) | refine opA (fun a' c' hc1 hc2 => ?_))
          | (show GJ _ _ _ _ _ _ _; first | (apply GJ.and; exact rfl; intro hg) | (apply GJ.or; exact rfl; intro hg)))
        refine nstep_ok (list := [-1, (a.rows.length : Int)]) (c := 97) hA0 hK (Rds.hasSl (by omega) (by unfold maxLen; omega) rfl) rfl (by decide) f2 (fun a6 c6 u3 u4 => ?_)
        rw [s2] at u3 ⊢
        repeat (first
          | (show _ ∧ _; exact ⟨rfl, rfl, rfl⟩)
          | refine wkP ?_
          | (show OpOk _ _ _ _ _ _ _; first | refine opB (fun b => ?_) | refine opA (fun a' c' hc1 hc2 => ?_))
          | (show GJ _ _ _ _ _ _ _; first | (apply GJ.and; exact rfl; intro hg) | (apply GJ.or; exact rfl; intro hg)))
        refine nreach_ok (list := [-5]) hA0 hK.ok (Rds.hasSl (by omega) (by unfold maxLen; omega) rfl) rfl (fun a7 c7 u5 u6 => ?_)
        rw [s3] at u5 ⊢
        repeat (first
          | (show _ ∧ _; exact ⟨rfl, rfl, rfl⟩)
          | refine wkP ?_
          | (show OpOk _ _ _ _ _ _ _; first | refine opB (fun b => ?_) | refine opA (fun a' c' hc1 hc2 => ?_))
          | (show GJ _ _ _ _ _ _ _; first | (apply GJ.and; exact rfl; intro hg) | (apply GJ.or; exact rfl; intro hg)))
        exact Wk.back1 Sup.auto (.refl _) hk
end
end Go.Proofs.Ytkpdnpcmeadggaa
