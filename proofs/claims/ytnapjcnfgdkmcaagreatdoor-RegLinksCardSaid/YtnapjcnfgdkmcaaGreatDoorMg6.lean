/- Texts of a walk, one behind the other. -/
import Derived.Test.YtnapjcnfgdkmcaaGreatDoorMg4
import Derived.Test.YtnapjcnfgdkmcaaGreatDoorMg5
section
/- Contracts of the reader: a record. -/
namespace Go.Proofs.YtnapjcnfgdkmcaaGreatDoor
open Go Go.E
set_option linter.unusedVariables false
set_option linter.unusedSectionVars false
set_option linter.unusedSimpArgs false
set_option maxRecDepth 10000
section
variable {ro : Ro} {own q q1 q2 : Chs} {K : Value → Ro → Chs → Prop} {l : List TokD} {s : PS} {a : SpecA} {la : Option Addr} {lc r : Nat} {deep : Nat} {F : PS → Nat × PS}
set_option maxHeartbeats 8000000 in
theorem rrecord_ok (hF : KOk la lc r l ((deep : Int) + 1) F) (hst : ∀ s, s.code ≠ 0 → (F s).2.code ≠ 0) (hd : deep ≤ 100) (hM : MaxOk ro) (hT : ToksOk ro la lc l) (h : RdOk ro l s a) (t1 : Take own (rdC r la lc l s a) q1) (t2 : Take q1 (ndC s a) q2) (t3 : Take q2 (dfC s a) q)
    (hk : ∀ ro' a', Le ro ro' → RdOk ro' l (recordP (listE l) F s).2 a' → K (.int .i64 ((recordP (listE l) F s).1 : Int)) ro' (rdC r la lc l (recordP (listE l) F s).2 a' :: ndC (recordP (listE l) F s).2 a' :: dfC (recordP (listE l) F s).2 a' :: q)) :
    CallOk Tryz.prog 113 #[ptr' r, .int .i64 (deep : Int)] ro own K := by
  refine CallOk.perm (three t1 t2 t3) ?_
  unfold recordP at hk
  dsimp only at hk
  refine CallOk.intro (args := [_, _]) (rs := [_]) T_ok Tryz.func113 Tryz.call113 rfl rfl (by kernel_rfl) rfl rfl ?_
  repeat (first | exact endA | refine wkP ?_ | refine opB (fun b => ?_) | refine opA (fun a' c' hc1 hc2 => ?_) | (apply GJ.and; exact rfl; intro hg) | (apply GJ.or; exact rfl; intro hg))
  refine must3 (t := [123]) hT h Take.auto Take.auto Take.auto (fun h1 => ?_)
  generalize mustP (listE l) [123] s = s1 at *
  obtain ⟨R, hR⟩ : ∃ R, R = fieldsP (listE l) F 70 [] s1 := ⟨_, rfl⟩
  rw [← hR] at hk
  obtain ⟨bN, hbN⟩ : ∃ z : Nat, z = b := ⟨_, rfl⟩
  subst hbN
  repeat (first | exact endA | refine wkP ?_ | refine opB (fun b => ?_) | refine opA (fun a' c' hc1 hc2 => ?_) | (apply GJ.and; exact rfl; intro hg) | (apply GJ.or; exact rfl; intro hg))
  refine LoopOk.auto (ι := List FieldD × PS × SpecA × Option Addr × Nat) Keep.auto (fun (fs, s, a, fa, fc) => []) (fun (fs, s, a, fa, fc) => rdC r la lc l s a :: ndC s a :: dfC s a :: .sl fa fs.length fc 47 5 (fieldsV fs) :: .blk bN 40 (nodeV { node0 with kind := 5, fields := fs } { nodeZ with fa := fa, fc := fc }) :: q) (fun (fs, s, a, fa, fc) ro2 => RdOk ro2 l s a ∧ fieldsP (listE l) F (70 - fs.length) fs s = R ∧ (fs.length ≤ 64 ∨ (fs.length = 65 ∧ s.code ≠ 0)) ∧ fs.length ≤ fc ∧ fc ≤ maxLen) (fun (fs, s, a, fa, fc) => 70 - fs.length) ([], s1, a, none, 0) ?_ Sub.auto Sup.auto ?_
  · exact ⟨h1, hR.symm, .inl (Nat.zero_le _), Nat.le_refl _, Nat.zero_le _⟩
  clear h1 hR h
  rintro ⟨fs, s, a, fa, fc⟩ ro2 hl2 ⟨i1, i2, i3, i4, i5⟩
  dsimp only [List.cons_append, List.nil_append] at i1 i2 i3 i4 i5 ⊢
  dsimp only [nodeV, node0, nodeZ]
  have hM2 := hM.le hl2
  have hT2 := hT.up hl2
  have hfl := fieldsV_len fs
  rw [show 70 - fs.length = (69 - fs.length) + 1 by omega, fieldsP] at i2
  repeat (first | exact endA | refine wkP ?_ | refine opB (fun b => ?_) | refine opA (fun a' c' hc1 hc2 => ?_) | (apply GJ.and; exact rfl; intro hg) | (apply GJ.or; exact rfl; intro hg))
  refine rok_ok i1 Take.auto ?_
  by_cases hc : s.code = 0
  · rw [if_neg (fun h => h hc)] at i2
    rw [decide_eq_true hc]
    repeat (first | exact endA | refine wkP ?_ | refine opB (fun b => ?_) | refine opA (fun a' c' hc1 hc2 => ?_) | (apply GJ.and; exact rfl; intro hg) | (apply GJ.or; exact rfl; intro hg))
    refine sign3 (t := [125]) hT2 i1 Take.auto Take.auto Take.auto (fun h2 => ?_)
    have hpos : (signP (listE l) [125] s).1 = true → 1 ≤ (signP (listE l) [125] s).2.at' := fun hh => by
      unfold signP eatP at hh ⊢
      split
      · exact Nat.succ_pos _
      · rename_i hn; rw [if_neg hn] at hh; cases hh
    generalize signP (listE l) [125] s = e at *
    obtain ⟨eb, s3⟩ := e
    dsimp only at h2 hpos i2 ⊢
    cases eb with
    | true =>
      rw [if_pos rfl] at i2
      subst i2
      dsimp only at hk
      have hpos := hpos rfl
      repeat (first | exact endA | refine wkP ?_ | refine opB (fun b => ?_) | refine opA (fun a' c' hc1 hc2 => ?_) | (apply GJ.and; exact rfl; intro hg) | (apply GJ.or; exact rfl; intro hg))
      refine rok_ok h2 Take.auto ?_
      by_cases hb : s3.code = 0 ∧ fs.length = 0
      · rw [if_pos hb] at hk
        rw [decide_eq_true hb.1]
        have hb2 := hb.2
        have hat := h2.at'
        have hl2' := hT.le
        unfold rdC readV
        repeat (first | exact endA | refine wkP ?_ | refine opB (fun b => ?_) | refine opA (fun a' c' hc1 hc2 => ?_) | (apply GJ.and; exact rfl; intro hg) | (apply GJ.or; exact rfl; intro hg))
        rw [← backC hpos]
        refine wrong3 (e := 5) (s := backP s3) (by decide) (by decide) hT2 h2.back Take.auto Take.auto Take.auto (fun h4 => ?_)
        repeat (first | exact endA | refine wkP ?_ | refine opB (fun b => ?_) | refine opA (fun a' c' hc1 hc2 => ?_) | (apply GJ.and; exact rfl; intro hg) | (apply GJ.or; exact rfl; intro hg))
        refine CallOk.freeze (c := .sl fa _ _ _ _ _) Take.auto (fun ro9 hl9 hc9 => ?_)
        refine radd_ok (d := { node0 with kind := 5, fields := fs }) (x := { nodeZ with fa := fa, fc := fc }) (hT2.up hl9) ((h4).up hl9) ⟨Rs.nil _ 1, Rs.nil _ 1, Rs.last hc9, Rs.nil _ 2⟩ ⟨by simp [node0], by simp [node0], by dsimp only; omega, by simp [node0]⟩ Take.auto Take.auto Take.auto (fun ro4 a4 hl4 h4 => ?_)
        have hk2 := hk ro4 a4 ((hl2.trans hl9).trans hl4) h4
        repeat (first | exact endA | refine wkP ?_ | refine opB (fun b => ?_) | refine opA (fun a' c' hc1 hc2 => ?_) | (apply GJ.and; exact rfl; intro hg) | (apply GJ.or; exact rfl; intro hg))
        exact Wk.outS Sup.auto (.refl _) hk2
      · rw [if_neg hb] at hk
        by_cases hc3 : s3.code = 0
        · have hn0 : ¬ fs.length = 0 := fun h => hb ⟨hc3, h⟩
          rw [decide_eq_true hc3]
          repeat (first | exact endA | refine wkP ?_ | refine opB (fun b => ?_) | refine opA (fun a' c' hc1 hc2 => ?_) | (apply GJ.and; exact rfl; intro hg) | (apply GJ.or; exact rfl; intro hg))
          refine CallOk.freeze (c := .sl fa _ _ _ _ _) Take.auto (fun ro9 hl9 hc9 => ?_)
          refine radd_ok (d := { node0 with kind := 5, fields := fs }) (x := { nodeZ with fa := fa, fc := fc }) (hT2.up hl9) ((h2).up hl9) ⟨Rs.nil _ 1, Rs.nil _ 1, Rs.last hc9, Rs.nil _ 2⟩ ⟨by simp [node0], by simp [node0], by dsimp only; omega, by simp [node0]⟩ Take.auto Take.auto Take.auto (fun ro4 a4 hl4 h4 => ?_)
          have hk2 := hk ro4 a4 ((hl2.trans hl9).trans hl4) h4
          repeat (first | exact endA | refine wkP ?_ | refine opB (fun b => ?_) | refine opA (fun a' c' hc1 hc2 => ?_) | (apply GJ.and; exact rfl; intro hg) | (apply GJ.or; exact rfl; intro hg))
          exact Wk.outS Sup.auto (.refl _) hk2
        · rw [decide_eq_false hc3]
          repeat (first | exact endA | refine wkP ?_ | refine opB (fun b => ?_) | refine opA (fun a' c' hc1 hc2 => ?_) | (apply GJ.and; exact rfl; intro hg) | (apply GJ.or; exact rfl; intro hg))
          refine CallOk.freeze (c := .sl fa _ _ _ _ _) Take.auto (fun ro9 hl9 hc9 => ?_)
          refine radd_ok (d := { node0 with kind := 5, fields := fs }) (x := { nodeZ with fa := fa, fc := fc }) (hT2.up hl9) ((h2).up hl9) ⟨Rs.nil _ 1, Rs.nil _ 1, Rs.last hc9, Rs.nil _ 2⟩ ⟨by simp [node0], by simp [node0], by dsimp only; omega, by simp [node0]⟩ Take.auto Take.auto Take.auto (fun ro4 a4 hl4 h4 => ?_)
          have hk2 := hk ro4 a4 ((hl2.trans hl9).trans hl4) h4
          repeat (first | exact endA | refine wkP ?_ | refine opB (fun b => ?_) | refine opA (fun a' c' hc1 hc2 => ?_) | (apply GJ.and; exact rfl; intro hg) | (apply GJ.or; exact rfl; intro hg))
          exact Wk.outS Sup.auto (.refl _) hk2
    | false =>
      rw [if_neg (by decide)] at i2
      by_cases h64 : fs.length = 64
      · rw [if_pos h64] at i2
        repeat (first | exact endA | refine wkP ?_ | refine opB (fun b => ?_) | refine opA (fun a' c' hc1 hc2 => ?_) | (apply GJ.and; exact rfl; intro hg) | (apply GJ.or; exact rfl; intro hg))
        refine wrong3 (e := 2) (by decide) (by decide) hT2 h2 Take.auto Take.auto Take.auto (fun h4 => ?_)
        have hcode : (wrongP 2 s3).code ≠ 0 := by
          unfold wrongP
          split
          · exact (by decide : (2 : Nat) ≠ 0)
          · assumption
        generalize wrongP 2 s3 = s4 at *
        repeat (first | exact endA | refine wkG ?_ | refine opB (fun b => ?_) | refine opA (fun a' c' hc1 hc2 => ?_) | (show GJ _ _ _ _ _ _ _; first | (apply GJ.and; exact rfl; intro hg) | (apply GJ.or; exact rfl; intro hg) | refine GJ.t omAuto ?_ | refine GJ.f omAuto ?_ | refine GJ.ft omAuto ?_ | refine GJ.ff omAuto ?_))
        refine Bs.mk ⟨[.blk bN 40 [.int .i64 5, .int .i64 0, .bool false, .bool false, .bool false, .int .u64 ((0 : Nat) : Int), .int .u64 ((0 : Nat) : Int), str [], str [], .int .u64 ((0 : Nat) : Int), .int .u64 ((0 : Nat) : Int), .slice none 0 0, .slice none 0 0, .slice fa fs.length fc, str [], .int .u64 ((0 : Nat) : Int), .slice none 0 0, .int .i64 0]], Sup.auto, ?_⟩
        repeat (first | exact endA | refine wkG ?_ | refine opB (fun b => ?_) | refine opA (fun a' c' hc1 hc2 => ?_) | (show GJ _ _ _ _ _ _ _; first | (apply GJ.and; exact rfl; intro hg) | (apply GJ.or; exact rfl; intro hg) | refine GJ.t omAuto ?_ | refine GJ.f omAuto ?_ | refine GJ.ft omAuto ?_ | refine GJ.ff omAuto ?_))
        refine rfield_ok hF hd hM2 hT2 h4 Take.auto Take.auto Take.auto (fun ro3 a3 hl3 h5 => ?_)
        have hstf : (s4).code ≠ 0 → (fieldP (listE l) F s4).2.code ≠ 0 := fun hh => by
          haveI := sticky_clo l
          exact (InP.field (I := fun s => s.code ≠ 0) (E := listE l) (fun s h => ⟨hst s h.get⟩) ⟨hh⟩).get
        generalize fieldP (listE l) F s4 = x at *
        obtain ⟨xf, s5⟩ := x
        dsimp only at h5 i2 hstf ⊢
        refine wkS ?_
        refine opB (fun b2 => ?_)
        refine wkS ?_
        repeat (first | exact endA | refine wkG ?_ | refine opB (fun b => ?_) | refine opA (fun a' c' hc1 hc2 => ?_) | (show GJ _ _ _ _ _ _ _; first | (apply GJ.and; exact rfl; intro hg) | (apply GJ.or; exact rfl; intro hg) | refine GJ.t omAuto ?_ | refine GJ.f omAuto ?_ | refine GJ.ft omAuto ?_ | refine GJ.ff omAuto ?_))
        have e2 : fieldsV fs ++ flat [Value.agg (fieldV xf).toArray] = fieldsV (fs ++ [xf]) := by simp [fieldsV, flat, fieldV, Value.cells]
        have e1 : fs.length + 1 = (fs ++ [xf]).length := by simp
        rw [e2]
        rw [e1] at hc1 ⊢
        repeat (first | exact endA | refine wkP ?_ | refine opB (fun b => ?_) | refine opA (fun a' c' hc1 hc2 => ?_) | (apply GJ.and; exact rfl; intro hg) | (apply GJ.or; exact rfl; intro hg))
        refine Wk.id ⟨(fs ++ [xf], s5, a3, a', c'), ?_, ?_, Sub.auto, Sup.auto⟩
        all_goals try dsimp only
        · refine ⟨h5, by rw [← e1, show 70 - (fs.length + 1) = 69 - fs.length by omega]; exact i2, ?_, hc1, hc2⟩
          rw [← e1]
          exact .inr ⟨by omega, hstf hcode⟩
        · rw [← e1]; omega
      · rw [if_neg h64] at i2
        have hle : fs.length ≤ 63 := by
          rcases i3 with h | ⟨h, hh⟩
          · omega
          · exact absurd hc hh
        repeat (first | exact endA | refine wkG ?_ | refine opB (fun b => ?_) | refine opA (fun a' c' hc1 hc2 => ?_) | (show GJ _ _ _ _ _ _ _; first | (apply GJ.and; exact rfl; intro hg) | (apply GJ.or; exact rfl; intro hg) | refine GJ.t omAuto ?_ | refine GJ.f omAuto ?_ | refine GJ.ft omAuto ?_ | refine GJ.ff omAuto ?_))
        refine SeqOk.pass ?_
        repeat (first | exact endA | refine wkG ?_ | refine opB (fun b => ?_) | refine opA (fun a' c' hc1 hc2 => ?_) | (show GJ _ _ _ _ _ _ _; first | (apply GJ.and; exact rfl; intro hg) | (apply GJ.or; exact rfl; intro hg) | refine GJ.t omAuto ?_ | refine GJ.f omAuto ?_ | refine GJ.ft omAuto ?_ | refine GJ.ff omAuto ?_))
        refine Bs.mk ⟨[.blk bN 40 [.int .i64 5, .int .i64 0, .bool false, .bool false, .bool false, .int .u64 ((0 : Nat) : Int), .int .u64 ((0 : Nat) : Int), str [], str [], .int .u64 ((0 : Nat) : Int), .int .u64 ((0 : Nat) : Int), .slice none 0 0, .slice none 0 0, .slice fa fs.length fc, str [], .int .u64 ((0 : Nat) : Int), .slice none 0 0, .int .i64 0]], Sup.auto, ?_⟩
        repeat (first | exact endA | refine wkG ?_ | refine opB (fun b => ?_) | refine opA (fun a' c' hc1 hc2 => ?_) | (show GJ _ _ _ _ _ _ _; first | (apply GJ.and; exact rfl; intro hg) | (apply GJ.or; exact rfl; intro hg) | refine GJ.t omAuto ?_ | refine GJ.f omAuto ?_ | refine GJ.ft omAuto ?_ | refine GJ.ff omAuto ?_))
        refine rfield_ok hF hd hM2 hT2 h2 Take.auto Take.auto Take.auto (fun ro3 a3 hl3 h5 => ?_)
        have hstf : (s3).code ≠ 0 → (fieldP (listE l) F s3).2.code ≠ 0 := fun hh => by
          haveI := sticky_clo l
          exact (InP.field (I := fun s => s.code ≠ 0) (E := listE l) (fun s h => ⟨hst s h.get⟩) ⟨hh⟩).get
        generalize fieldP (listE l) F s3 = x at *
        obtain ⟨xf, s5⟩ := x
        dsimp only at h5 i2 hstf ⊢
        refine wkS ?_
        refine opB (fun b2 => ?_)
        refine wkS ?_
        repeat (first | exact endA | refine wkG ?_ | refine opB (fun b => ?_) | refine opA (fun a' c' hc1 hc2 => ?_) | (show GJ _ _ _ _ _ _ _; first | (apply GJ.and; exact rfl; intro hg) | (apply GJ.or; exact rfl; intro hg) | refine GJ.t omAuto ?_ | refine GJ.f omAuto ?_ | refine GJ.ft omAuto ?_ | refine GJ.ff omAuto ?_))
        have e2 : fieldsV fs ++ flat [Value.agg (fieldV xf).toArray] = fieldsV (fs ++ [xf]) := by simp [fieldsV, flat, fieldV, Value.cells]
        have e1 : fs.length + 1 = (fs ++ [xf]).length := by simp
        rw [e2]
        rw [e1] at hc1 ⊢
        repeat (first | exact endA | refine wkP ?_ | refine opB (fun b => ?_) | refine opA (fun a' c' hc1 hc2 => ?_) | (apply GJ.and; exact rfl; intro hg) | (apply GJ.or; exact rfl; intro hg))
        refine Wk.id ⟨(fs ++ [xf], s5, a3, a', c'), ?_, ?_, Sub.auto, Sup.auto⟩
        all_goals try dsimp only
        · refine ⟨h5, by rw [← e1, show 70 - (fs.length + 1) = 69 - fs.length by omega]; exact i2, ?_, hc1, hc2⟩
          rw [← e1]
          exact .inl (by omega)
        · rw [← e1]; omega
  · rw [if_pos hc] at i2
    subst i2
    dsimp only at hk
    rw [if_neg (fun h => hc h.1)] at hk
    rw [decide_eq_false hc]
    repeat (first | exact endA | refine wkP ?_ | refine opB (fun b => ?_) | refine opA (fun a' c' hc1 hc2 => ?_) | (apply GJ.and; exact rfl; intro hg) | (apply GJ.or; exact rfl; intro hg))
    refine rok_ok i1 Take.auto ?_
    rw [decide_eq_false hc]
    repeat (first | exact endA | refine wkP ?_ | refine opB (fun b => ?_) | refine opA (fun a' c' hc1 hc2 => ?_) | (apply GJ.and; exact rfl; intro hg) | (apply GJ.or; exact rfl; intro hg))
    refine CallOk.freeze (c := .sl fa _ _ _ _ _) Take.auto (fun ro9 hl9 hc9 => ?_)
    refine radd_ok (d := { node0 with kind := 5, fields := fs }) (x := { nodeZ with fa := fa, fc := fc }) (hT2.up hl9) ((i1).up hl9) ⟨Rs.nil _ 1, Rs.nil _ 1, Rs.last hc9, Rs.nil _ 2⟩ ⟨by simp [node0], by simp [node0], by dsimp only; omega, by simp [node0]⟩ Take.auto Take.auto Take.auto (fun ro4 a4 hl4 h4 => ?_)
    have hk2 := hk ro4 a4 ((hl2.trans hl9).trans hl4) h4
    repeat (first | exact endA | refine wkP ?_ | refine opB (fun b => ?_) | refine opA (fun a' c' hc1 hc2 => ?_) | (apply GJ.and; exact rfl; intro hg) | (apply GJ.or; exact rfl; intro hg))
    exact Wk.outS Sup.auto (.refl _) hk2
end
end Go.Proofs.YtnapjcnfgdkmcaaGreatDoor
end
section
/- Contracts of the reader: types by a number. -/
namespace Go.Proofs.YtnapjcnfgdkmcaaGreatDoor
open Go Go.E
set_option linter.unusedVariables false
set_option linter.unusedSectionVars false
set_option linter.unusedSimpArgs false
set_option maxRecDepth 10000
theorem casesV_len' (l : List CaseD) : (casesV l).length = l.length * 2 := by
  unfold casesV
  induction l with
  | nil => rfl
  | cons x l ih => rw [List.flatMap_cons, List.length_append, ih]; simp only [caseV, List.length_cons, List.length_nil]; omega
section
variable {ro : Ro} {own q q1 q2 : Chs} {K : Value → Ro → Chs → Prop} {l : List TokD} {s : PS} {a : SpecA} {la : Option Addr} {lc r : Nat} {deep : Nat} {F : PS → Nat × PS}
set_option maxHeartbeats 8000000 in
theorem rcases_ok (hF : KOk la lc r l ((deep : Int) + 1) F) (hst : ∀ s, s.code ≠ 0 → (F s).2.code ≠ 0) (hd : deep ≤ 100) (hM : MaxOk ro) (hT : ToksOk ro la lc l) (h : RdOk ro l s a) (t1 : Take own (rdC r la lc l s a) q1) (t2 : Take q1 (ndC s a) q2) (t3 : Take q2 (dfC s a) q)
    (hk : ∀ ro' a', Le ro ro' → RdOk ro' l (switchP numD (listE l) F s).2 a' → K (.int .i64 ((switchP numD (listE l) F s).1 : Int)) ro' (rdC r la lc l (switchP numD (listE l) F s).2 a' :: ndC (switchP numD (listE l) F s).2 a' :: dfC (switchP numD (listE l) F s).2 a' :: q)) :
    CallOk Tryz.prog 138 #[ptr' r, .int .i64 (deep : Int)] ro own K := by
  refine CallOk.perm (three t1 t2 t3) ?_
  unfold switchP at hk
  dsimp only at hk
  refine CallOk.intro (args := [_, _]) (rs := [_]) T_ok Tryz.func138 Tryz.call138 rfl rfl (by kernel_rfl) rfl rfl ?_
  repeat (first | exact endA | refine wkP ?_ | refine opB (fun b => ?_) | refine opA (fun a' c' hc1 hc2 => ?_) | (apply GJ.and; exact rfl; intro hg) | (apply GJ.or; exact rfl; intro hg))
  refine name3 hM hT h Take.auto Take.auto Take.auto (fun h1 => ?_)
  generalize nameP (listE l) s = x at *
  obtain ⟨xn, s1⟩ := x
  dsimp only at h1 hk ⊢
  repeat (first | exact endA | refine wkP ?_ | refine opB (fun b => ?_) | refine opA (fun a' c' hc1 hc2 => ?_) | (apply GJ.and; exact rfl; intro hg) | (apply GJ.or; exact rfl; intro hg))
  obtain ⟨bN, hbN⟩ : ∃ z : Nat, z = b := ⟨_, rfl⟩
  subst hbN
  refine sign3 (t := [37]) hT h1 Take.auto Take.auto Take.auto (fun h2 => ?_)
  generalize signP (listE l) [37] s1 = m at *
  obtain ⟨mb, s2⟩ := m
  dsimp only at h2 hk ⊢
  cases mb with
  | false =>
    simp only [Bool.false_eq_true, ↓reduceIte, false_and] at hk
    repeat (first | exact endA | refine wkP ?_ | refine opB (fun b => ?_) | refine opA (fun a' c' hc1 hc2 => ?_) | (apply GJ.and; exact rfl; intro hg) | (apply GJ.or; exact rfl; intro hg))
    refine must3 (t := [123]) hT h2 Take.auto Take.auto Take.auto (fun h4 => ?_)
    generalize mustP (listE l) [123] s2 = sM at *
    obtain ⟨R, hR⟩ : ∃ R, R = casesP numD (listE l) F 70 [] sM := ⟨_, rfl⟩
    rw [← hR] at hk
    repeat (first | exact endA | refine wkP ?_ | refine opB (fun b => ?_) | refine opA (fun a' c' hc1 hc2 => ?_) | (apply GJ.and; exact rfl; intro hg) | (apply GJ.or; exact rfl; intro hg))
    refine LoopOk.auto (ι := List CaseD × PS × SpecA × Option Addr × Nat) Keep.auto (fun (cs, s, a, ca, cc) => []) (fun (cs, s, a, ca, cc) => rdC r la lc l s a :: ndC s a :: dfC s a :: .sl ca cs.length cc 97 2 (casesV cs) :: .blk bN 40 (nodeV { node0 with kind := 9, reg := xn, mod := 0, cases := cs, els := -1 } { nodeZ with ca := ca, cc := cc }) :: q) (fun (cs, s, a, ca, cc) ro2 => RdOk ro2 l s a ∧ casesP numD (listE l) F (70 - cs.length) cs s = R ∧ (cs.length ≤ 64 ∨ (cs.length = 65 ∧ s.code ≠ 0)) ∧ cs.length ≤ cc ∧ cc ≤ maxLen) (fun (cs, s, a, ca, cc) => 70 - cs.length) ([], sM, a, none, 0) ?_ Sub.auto Sup.auto ?_
    · exact ⟨h4, hR.symm, .inl (Nat.zero_le _), Nat.le_refl _, Nat.zero_le _⟩
    clear h4 hR h h1 h2
    rintro ⟨cs, s, a, ca, cc⟩ ro2 hl2 ⟨i1, i2, i3, i4, i5⟩
    dsimp only [List.cons_append, List.nil_append] at i1 i2 i3 i4 i5 ⊢
    dsimp only [nodeV, node0, nodeZ]
    have hM2 := hM.le hl2
    have hT2 := hT.up hl2
    have hfl := casesV_len' cs
    rw [show 70 - cs.length = (69 - cs.length) + 1 by omega, casesP] at i2
    repeat (first | exact endA | refine wkP ?_ | refine opB (fun b => ?_) | refine opA (fun a' c' hc1 hc2 => ?_) | (apply GJ.and; exact rfl; intro hg) | (apply GJ.or; exact rfl; intro hg))
    refine rok_ok i1 Take.auto ?_
    by_cases hc : s.code = 0
    · rw [decide_eq_true hc]
      repeat (first | exact endA | refine wkP ?_ | refine opB (fun b => ?_) | refine opA (fun a' c' hc1 hc2 => ?_) | (apply GJ.and; exact rfl; intro hg) | (apply GJ.or; exact rfl; intro hg))
      refine rpeek_ok hT2 i1 Take.auto ?_
      repeat (first | exact endA | refine wkP ?_ | refine opB (fun b => ?_) | refine opA (fun a' c' hc1 hc2 => ?_) | (apply GJ.and; exact rfl; intro hg) | (apply GJ.or; exact rfl; intro hg))
      by_cases hk2 : (peekP (listE l) s).kind = 2
      · rw [if_neg (by rintro (h | h); exact h hc; exact h hk2)] at i2
        rw [hk2]
        repeat (first | exact endA | refine wkP ?_ | refine opB (fun b => ?_) | refine opA (fun a' c' hc1 hc2 => ?_) | (apply GJ.and; exact rfl; intro hg) | (apply GJ.or; exact rfl; intro hg))
        by_cases h64 : cs.length = 64
        · rw [if_pos h64] at i2
          repeat (first | exact endA | refine wkP ?_ | refine opB (fun b => ?_) | refine opA (fun a' c' hc1 hc2 => ?_) | (apply GJ.and; exact rfl; intro hg) | (apply GJ.or; exact rfl; intro hg))
          refine wrong3 (e := 2) (by decide) (by decide) hT2 i1 Take.auto Take.auto Take.auto (fun h4 => ?_)
          have hcode : (wrongP 2 s).code ≠ 0 := by
            unfold wrongP
            rw [if_pos hc]
            exact (by decide : (2 : Nat) ≠ 0)
          generalize wrongP 2 s = s4 at *
          repeat (first | exact endA | refine wkP ?_ | refine opB (fun b => ?_) | refine opA (fun a' c' hc1 hc2 => ?_) | (apply GJ.and; exact rfl; intro hg) | (apply GJ.or; exact rfl; intro hg))
          have hstf : (s4).code ≠ 0 → (mustP (listE l) [59] (F (mustP (listE l) [58] (numP numD (listE l) s4).2)).2).code ≠ 0 := fun hh => by
            haveI := sticky_clo l
            exact (InP.must (E := listE l) (I := fun s => s.code ≠ 0) ⟨hst _ (InP.must (E := listE l) (I := fun s => s.code ≠ 0) (InP.num (wideP := numD) ⟨hh⟩) [58]).get⟩ [59]).get
          dsimp only at i2
          refine num3 hT2 h4 Take.auto Take.auto Take.auto (fun h5 => ?_)
          generalize numP numD (listE l) s4 = v at *
          obtain ⟨vn, s5⟩ := v
          dsimp only at h5 i2 hstf ⊢
          repeat (first | exact endA | refine wkP ?_ | refine opB (fun b => ?_) | refine opA (fun a' c' hc1 hc2 => ?_) | (apply GJ.and; exact rfl; intro hg) | (apply GJ.or; exact rfl; intro hg))
          obtain ⟨bC, hbC⟩ : ∃ z : Nat, z = b := ⟨_, rfl⟩
          subst hbC
          refine must3 (t := [58]) hT2 h5 Take.auto Take.auto Take.auto (fun h6 => ?_)
          generalize mustP (listE l) [58] s5 = s6 at *
          repeat (first | exact endA | refine wkP ?_ | refine opB (fun b => ?_) | refine opA (fun a' c' hc1 hc2 => ?_) | (apply GJ.and; exact rfl; intro hg) | (apply GJ.or; exact rfl; intro hg))
          refine hF.run hM2 hT2 h6 Take.auto Take.auto Take.auto (fun ro3 a3 hl3 h7 => ?_)
          generalize F s6 = kx at *
          obtain ⟨kn, s7⟩ := kx
          dsimp only at h7 i2 hstf ⊢
          repeat (first | exact endA | refine wkP ?_ | refine opB (fun b => ?_) | refine opA (fun a' c' hc1 hc2 => ?_) | (apply GJ.and; exact rfl; intro hg) | (apply GJ.or; exact rfl; intro hg))
          refine must3 (t := [59]) (hT2.up hl3) h7 Take.auto Take.auto Take.auto (fun h8 => ?_)
          generalize mustP (listE l) [59] s7 = s8 at *
          repeat (first | exact endA | refine wkP ?_ | refine opB (fun b => ?_) | refine opA (fun a' c' hc1 hc2 => ?_) | (apply GJ.and; exact rfl; intro hg) | (apply GJ.or; exact rfl; intro hg))
          have e2 : casesV cs ++ flat [Value.agg #[.int .u64 (vn : Int), .int .i64 (kn : Int)]] = casesV (cs ++ [⟨vn, kn⟩]) := by simp [casesV, flat, caseV, Value.cells]
          have e1 : cs.length + 1 = (cs ++ [(⟨vn, kn⟩ : CaseD)]).length := by simp
          rw [e2]
          rw [e1] at hc1 ⊢
          repeat (first | exact endA | refine wkP ?_ | refine opB (fun b => ?_) | refine opA (fun a' c' hc1 hc2 => ?_) | (apply GJ.and; exact rfl; intro hg) | (apply GJ.or; exact rfl; intro hg))
          refine Wk.id ⟨(cs ++ [⟨vn, kn⟩], s8, a3, a', c'), ?_, ?_, Sub.auto, Sup.auto⟩
          all_goals try dsimp only
          · refine ⟨h8, by rw [← e1, show 70 - (cs.length + 1) = 69 - cs.length by omega]; exact i2, ?_, hc1, hc2⟩
            rw [← e1]
            exact .inr ⟨by omega, hstf hcode⟩
          · rw [← e1]; omega
        · rw [if_neg h64] at i2
          have hle : cs.length ≤ 63 := by
            rcases i3 with h | ⟨h, hh⟩
            · omega
            · exact absurd hc hh
          repeat (first | exact endA | refine wkP ?_ | refine opB (fun b => ?_) | refine opA (fun a' c' hc1 hc2 => ?_) | (apply GJ.and; exact rfl; intro hg) | (apply GJ.or; exact rfl; intro hg))
          repeat (first | exact endA | refine wkP ?_ | refine opB (fun b => ?_) | refine opA (fun a' c' hc1 hc2 => ?_) | (apply GJ.and; exact rfl; intro hg) | (apply GJ.or; exact rfl; intro hg))
          have hstf : (s).code ≠ 0 → (mustP (listE l) [59] (F (mustP (listE l) [58] (numP numD (listE l) s).2)).2).code ≠ 0 := fun hh => by
            haveI := sticky_clo l
            exact (InP.must (E := listE l) (I := fun s => s.code ≠ 0) ⟨hst _ (InP.must (E := listE l) (I := fun s => s.code ≠ 0) (InP.num (wideP := numD) ⟨hh⟩) [58]).get⟩ [59]).get
          dsimp only at i2
          refine num3 hT2 i1 Take.auto Take.auto Take.auto (fun h5 => ?_)
          generalize numP numD (listE l) s = v at *
          obtain ⟨vn, s5⟩ := v
          dsimp only at h5 i2 hstf ⊢
          repeat (first | exact endA | refine wkP ?_ | refine opB (fun b => ?_) | refine opA (fun a' c' hc1 hc2 => ?_) | (apply GJ.and; exact rfl; intro hg) | (apply GJ.or; exact rfl; intro hg))
          obtain ⟨bC, hbC⟩ : ∃ z : Nat, z = b := ⟨_, rfl⟩
          subst hbC
          refine must3 (t := [58]) hT2 h5 Take.auto Take.auto Take.auto (fun h6 => ?_)
          generalize mustP (listE l) [58] s5 = s6 at *
          repeat (first | exact endA | refine wkP ?_ | refine opB (fun b => ?_) | refine opA (fun a' c' hc1 hc2 => ?_) | (apply GJ.and; exact rfl; intro hg) | (apply GJ.or; exact rfl; intro hg))
          refine hF.run hM2 hT2 h6 Take.auto Take.auto Take.auto (fun ro3 a3 hl3 h7 => ?_)
          generalize F s6 = kx at *
          obtain ⟨kn, s7⟩ := kx
          dsimp only at h7 i2 hstf ⊢
          repeat (first | exact endA | refine wkP ?_ | refine opB (fun b => ?_) | refine opA (fun a' c' hc1 hc2 => ?_) | (apply GJ.and; exact rfl; intro hg) | (apply GJ.or; exact rfl; intro hg))
          refine must3 (t := [59]) (hT2.up hl3) h7 Take.auto Take.auto Take.auto (fun h8 => ?_)
          generalize mustP (listE l) [59] s7 = s8 at *
          repeat (first | exact endA | refine wkP ?_ | refine opB (fun b => ?_) | refine opA (fun a' c' hc1 hc2 => ?_) | (apply GJ.and; exact rfl; intro hg) | (apply GJ.or; exact rfl; intro hg))
          have e2 : casesV cs ++ flat [Value.agg #[.int .u64 (vn : Int), .int .i64 (kn : Int)]] = casesV (cs ++ [⟨vn, kn⟩]) := by simp [casesV, flat, caseV, Value.cells]
          have e1 : cs.length + 1 = (cs ++ [(⟨vn, kn⟩ : CaseD)]).length := by simp
          rw [e2]
          rw [e1] at hc1 ⊢
          repeat (first | exact endA | refine wkP ?_ | refine opB (fun b => ?_) | refine opA (fun a' c' hc1 hc2 => ?_) | (apply GJ.and; exact rfl; intro hg) | (apply GJ.or; exact rfl; intro hg))
          refine Wk.id ⟨(cs ++ [⟨vn, kn⟩], s8, a3, a', c'), ?_, ?_, Sub.auto, Sup.auto⟩
          all_goals try dsimp only
          · refine ⟨h8, by rw [← e1, show 70 - (cs.length + 1) = 69 - cs.length by omega]; exact i2, ?_, hc1, hc2⟩
            rw [← e1]
            exact .inl (by omega)
          · rw [← e1]; omega
      · rw [if_pos (.inr hk2)] at i2
        subst i2
        dsimp only at hk
        repeat (first | exact endA | refine wkP ?_ | refine opB (fun b => ?_) | refine opA (fun a' c' hc1 hc2 => ?_) | (apply GJ.and; exact rfl; intro hg) | (apply GJ.or; exact rfl; intro hg))
        by_cases h0 : cs.length = 0
        · rw [if_pos h0] at hk
          repeat (first | exact endA | refine wkP ?_ | refine opB (fun b => ?_) | refine opA (fun a' c' hc1 hc2 => ?_) | (apply GJ.and; exact rfl; intro hg) | (apply GJ.or; exact rfl; intro hg))
          refine wrong3 (e := 5) (by decide) (by decide) hT2 i1 Take.auto Take.auto Take.auto (fun h6 => ?_)
          generalize wrongP 5 s = s6 at *
          repeat (first | exact endA | refine wkP ?_ | refine opB (fun b => ?_) | refine opA (fun a' c' hc1 hc2 => ?_) | (apply GJ.and; exact rfl; intro hg) | (apply GJ.or; exact rfl; intro hg))
          refine word3 (t := [101, 108, 115, 101]) hT2 h6 Take.auto Take.auto Take.auto (fun g5 => ?_)
          generalize kwP (listE l) [101, 108, 115, 101] s6 = e at *
          obtain ⟨eb, s7⟩ := e
          dsimp only at g5 hk ⊢
          cases eb with
          | false =>
            simp only [Bool.false_eq_true, ↓reduceIte] at hk
            repeat (first | exact endA | refine wkP ?_ | refine opB (fun b => ?_) | refine opA (fun a' c' hc1 hc2 => ?_) | (apply GJ.and; exact rfl; intro hg) | (apply GJ.or; exact rfl; intro hg))
            refine must3 (t := [125]) (hT2) g5 Take.auto Take.auto Take.auto (fun g1 => ?_)
            generalize mustP (listE l) [125] s7 = z1 at *
            repeat (first | exact endA | refine wkP ?_ | refine opB (fun b => ?_) | refine opA (fun a' c' hc1 hc2 => ?_) | (apply GJ.and; exact rfl; intro hg) | (apply GJ.or; exact rfl; intro hg))
            refine CallOk.freeze (c := .sl ca _ _ _ _ _) Take.auto (fun ro9 hl9 hc9 => ?_)
            refine radd_ok (d := { node0 with kind := 9, reg := xn, mod := 0, cases := cs, els := -1 }) (x := { nodeZ with ca := ca, cc := cc }) ((hT2).up hl9) (g1.up hl9) ⟨Rs.nil _ 1, Rs.nil _ 1, Rs.nil _ 5, Rs.last hc9⟩ ⟨by simp [node0], by simp [node0], by simp [node0], by dsimp only; omega⟩ Take.auto Take.auto Take.auto (fun ro4 a4 hl4 h4 => ?_)
            have hk2 := hk ro4 a4 (((hl2).trans hl9).trans hl4) h4
            repeat (first | exact endA | refine wkP ?_ | refine opB (fun b => ?_) | refine opA (fun a' c' hc1 hc2 => ?_) | (apply GJ.and; exact rfl; intro hg) | (apply GJ.or; exact rfl; intro hg))
            exact Wk.outS Sup.auto (.refl _) hk2
          | true =>
            simp only [↓reduceIte] at hk
            repeat (first | exact endA | refine wkP ?_ | refine opB (fun b => ?_) | refine opA (fun a' c' hc1 hc2 => ?_) | (apply GJ.and; exact rfl; intro hg) | (apply GJ.or; exact rfl; intro hg))
            refine must3 (t := [58]) hT2 g5 Take.auto Take.auto Take.auto (fun g6 => ?_)
            generalize mustP (listE l) [58] s7 = s8 at *
            repeat (first | exact endA | refine wkP ?_ | refine opB (fun b => ?_) | refine opA (fun a' c' hc1 hc2 => ?_) | (apply GJ.and; exact rfl; intro hg) | (apply GJ.or; exact rfl; intro hg))
            refine hF.run hM2 hT2 g6 Take.auto Take.auto Take.auto (fun ro5 a5 hl5 g7 => ?_)
            generalize F s8 = kx at *
            obtain ⟨kn, s9⟩ := kx
            dsimp only at g7 hk ⊢
            repeat (first | exact endA | refine wkP ?_ | refine opB (fun b => ?_) | refine opA (fun a' c' hc1 hc2 => ?_) | (apply GJ.and; exact rfl; intro hg) | (apply GJ.or; exact rfl; intro hg))
            refine must3 (t := [59]) (hT2.up hl5) g7 Take.auto Take.auto Take.auto (fun g8 => ?_)
            generalize mustP (listE l) [59] s9 = sA at *
            repeat (first | exact endA | refine wkP ?_ | refine opB (fun b => ?_) | refine opA (fun a' c' hc1 hc2 => ?_) | (apply GJ.and; exact rfl; intro hg) | (apply GJ.or; exact rfl; intro hg))
            refine must3 (t := [125]) (hT2.up hl5) g8 Take.auto Take.auto Take.auto (fun g1 => ?_)
            generalize mustP (listE l) [125] sA = z1 at *
            repeat (first | exact endA | refine wkP ?_ | refine opB (fun b => ?_) | refine opA (fun a' c' hc1 hc2 => ?_) | (apply GJ.and; exact rfl; intro hg) | (apply GJ.or; exact rfl; intro hg))
            refine CallOk.freeze (c := .sl ca _ _ _ _ _) Take.auto (fun ro9 hl9 hc9 => ?_)
            refine radd_ok (d := { node0 with kind := 9, reg := xn, mod := 0, cases := cs, els := (kn : Int) }) (x := { nodeZ with ca := ca, cc := cc }) ((hT2.up hl5).up hl9) (g1.up hl9) ⟨Rs.nil _ 1, Rs.nil _ 1, Rs.nil _ 5, Rs.last hc9⟩ ⟨by simp [node0], by simp [node0], by simp [node0], by dsimp only; omega⟩ Take.auto Take.auto Take.auto (fun ro4 a4 hl4 h4 => ?_)
            have hk2 := hk ro4 a4 (((hl2.trans hl5).trans hl9).trans hl4) h4
            repeat (first | exact endA | refine wkP ?_ | refine opB (fun b => ?_) | refine opA (fun a' c' hc1 hc2 => ?_) | (apply GJ.and; exact rfl; intro hg) | (apply GJ.or; exact rfl; intro hg))
            exact Wk.outS Sup.auto (.refl _) hk2
        · rw [if_neg h0] at hk
          repeat (first | exact endA | refine wkP ?_ | refine opB (fun b => ?_) | refine opA (fun a' c' hc1 hc2 => ?_) | (apply GJ.and; exact rfl; intro hg) | (apply GJ.or; exact rfl; intro hg))
          refine word3 (t := [101, 108, 115, 101]) hT2 i1 Take.auto Take.auto Take.auto (fun g5 => ?_)
          generalize kwP (listE l) [101, 108, 115, 101] s = e at *
          obtain ⟨eb, s7⟩ := e
          dsimp only at g5 hk ⊢
          cases eb with
          | false =>
            simp only [Bool.false_eq_true, ↓reduceIte] at hk
            repeat (first | exact endA | refine wkP ?_ | refine opB (fun b => ?_) | refine opA (fun a' c' hc1 hc2 => ?_) | (apply GJ.and; exact rfl; intro hg) | (apply GJ.or; exact rfl; intro hg))
            refine must3 (t := [125]) (hT2) g5 Take.auto Take.auto Take.auto (fun g1 => ?_)
            generalize mustP (listE l) [125] s7 = z1 at *
            repeat (first | exact endA | refine wkP ?_ | refine opB (fun b => ?_) | refine opA (fun a' c' hc1 hc2 => ?_) | (apply GJ.and; exact rfl; intro hg) | (apply GJ.or; exact rfl; intro hg))
            refine CallOk.freeze (c := .sl ca _ _ _ _ _) Take.auto (fun ro9 hl9 hc9 => ?_)
            refine radd_ok (d := { node0 with kind := 9, reg := xn, mod := 0, cases := cs, els := -1 }) (x := { nodeZ with ca := ca, cc := cc }) ((hT2).up hl9) (g1.up hl9) ⟨Rs.nil _ 1, Rs.nil _ 1, Rs.nil _ 5, Rs.last hc9⟩ ⟨by simp [node0], by simp [node0], by simp [node0], by dsimp only; omega⟩ Take.auto Take.auto Take.auto (fun ro4 a4 hl4 h4 => ?_)
            have hk2 := hk ro4 a4 (((hl2).trans hl9).trans hl4) h4
            repeat (first | exact endA | refine wkP ?_ | refine opB (fun b => ?_) | refine opA (fun a' c' hc1 hc2 => ?_) | (apply GJ.and; exact rfl; intro hg) | (apply GJ.or; exact rfl; intro hg))
            exact Wk.outS Sup.auto (.refl _) hk2
          | true =>
            simp only [↓reduceIte] at hk
            repeat (first | exact endA | refine wkP ?_ | refine opB (fun b => ?_) | refine opA (fun a' c' hc1 hc2 => ?_) | (apply GJ.and; exact rfl; intro hg) | (apply GJ.or; exact rfl; intro hg))
            refine must3 (t := [58]) hT2 g5 Take.auto Take.auto Take.auto (fun g6 => ?_)
            generalize mustP (listE l) [58] s7 = s8 at *
            repeat (first | exact endA | refine wkP ?_ | refine opB (fun b => ?_) | refine opA (fun a' c' hc1 hc2 => ?_) | (apply GJ.and; exact rfl; intro hg) | (apply GJ.or; exact rfl; intro hg))
            refine hF.run hM2 hT2 g6 Take.auto Take.auto Take.auto (fun ro5 a5 hl5 g7 => ?_)
            generalize F s8 = kx at *
            obtain ⟨kn, s9⟩ := kx
            dsimp only at g7 hk ⊢
            repeat (first | exact endA | refine wkP ?_ | refine opB (fun b => ?_) | refine opA (fun a' c' hc1 hc2 => ?_) | (apply GJ.and; exact rfl; intro hg) | (apply GJ.or; exact rfl; intro hg))
            refine must3 (t := [59]) (hT2.up hl5) g7 Take.auto Take.auto Take.auto (fun g8 => ?_)
            generalize mustP (listE l) [59] s9 = sA at *
            repeat (first | exact endA | refine wkP ?_ | refine opB (fun b => ?_) | refine opA (fun a' c' hc1 hc2 => ?_) | (apply GJ.and; exact rfl; intro hg) | (apply GJ.or; exact rfl; intro hg))
            refine must3 (t := [125]) (hT2.up hl5) g8 Take.auto Take.auto Take.auto (fun g1 => ?_)
            generalize mustP (listE l) [125] sA = z1 at *
            repeat (first | exact endA | refine wkP ?_ | refine opB (fun b => ?_) | refine opA (fun a' c' hc1 hc2 => ?_) | (apply GJ.and; exact rfl; intro hg) | (apply GJ.or; exact rfl; intro hg))
            refine CallOk.freeze (c := .sl ca _ _ _ _ _) Take.auto (fun ro9 hl9 hc9 => ?_)
            refine radd_ok (d := { node0 with kind := 9, reg := xn, mod := 0, cases := cs, els := (kn : Int) }) (x := { nodeZ with ca := ca, cc := cc }) ((hT2.up hl5).up hl9) (g1.up hl9) ⟨Rs.nil _ 1, Rs.nil _ 1, Rs.nil _ 5, Rs.last hc9⟩ ⟨by simp [node0], by simp [node0], by simp [node0], by dsimp only; omega⟩ Take.auto Take.auto Take.auto (fun ro4 a4 hl4 h4 => ?_)
            have hk2 := hk ro4 a4 (((hl2.trans hl5).trans hl9).trans hl4) h4
            repeat (first | exact endA | refine wkP ?_ | refine opB (fun b => ?_) | refine opA (fun a' c' hc1 hc2 => ?_) | (apply GJ.and; exact rfl; intro hg) | (apply GJ.or; exact rfl; intro hg))
            exact Wk.outS Sup.auto (.refl _) hk2
    · rw [if_pos (.inl hc)] at i2
      subst i2
      dsimp only at hk
      rw [decide_eq_false hc]
      repeat (first | exact endA | refine wkP ?_ | refine opB (fun b => ?_) | refine opA (fun a' c' hc1 hc2 => ?_) | (apply GJ.and; exact rfl; intro hg) | (apply GJ.or; exact rfl; intro hg))
      by_cases h0 : cs.length = 0
      · rw [if_pos h0] at hk
        repeat (first | exact endA | refine wkP ?_ | refine opB (fun b => ?_) | refine opA (fun a' c' hc1 hc2 => ?_) | (apply GJ.and; exact rfl; intro hg) | (apply GJ.or; exact rfl; intro hg))
        refine wrong3 (e := 5) (by decide) (by decide) hT2 i1 Take.auto Take.auto Take.auto (fun h6 => ?_)
        generalize wrongP 5 s = s6 at *
        repeat (first | exact endA | refine wkP ?_ | refine opB (fun b => ?_) | refine opA (fun a' c' hc1 hc2 => ?_) | (apply GJ.and; exact rfl; intro hg) | (apply GJ.or; exact rfl; intro hg))
        refine word3 (t := [101, 108, 115, 101]) hT2 h6 Take.auto Take.auto Take.auto (fun g5 => ?_)
        generalize kwP (listE l) [101, 108, 115, 101] s6 = e at *
        obtain ⟨eb, s7⟩ := e
        dsimp only at g5 hk ⊢
        cases eb with
        | false =>
          simp only [Bool.false_eq_true, ↓reduceIte] at hk
          repeat (first | exact endA | refine wkP ?_ | refine opB (fun b => ?_) | refine opA (fun a' c' hc1 hc2 => ?_) | (apply GJ.and; exact rfl; intro hg) | (apply GJ.or; exact rfl; intro hg))
          refine must3 (t := [125]) (hT2) g5 Take.auto Take.auto Take.auto (fun g1 => ?_)
          generalize mustP (listE l) [125] s7 = z1 at *
          repeat (first | exact endA | refine wkP ?_ | refine opB (fun b => ?_) | refine opA (fun a' c' hc1 hc2 => ?_) | (apply GJ.and; exact rfl; intro hg) | (apply GJ.or; exact rfl; intro hg))
          refine CallOk.freeze (c := .sl ca _ _ _ _ _) Take.auto (fun ro9 hl9 hc9 => ?_)
          refine radd_ok (d := { node0 with kind := 9, reg := xn, mod := 0, cases := cs, els := -1 }) (x := { nodeZ with ca := ca, cc := cc }) ((hT2).up hl9) (g1.up hl9) ⟨Rs.nil _ 1, Rs.nil _ 1, Rs.nil _ 5, Rs.last hc9⟩ ⟨by simp [node0], by simp [node0], by simp [node0], by dsimp only; omega⟩ Take.auto Take.auto Take.auto (fun ro4 a4 hl4 h4 => ?_)
          have hk2 := hk ro4 a4 (((hl2).trans hl9).trans hl4) h4
          repeat (first | exact endA | refine wkP ?_ | refine opB (fun b => ?_) | refine opA (fun a' c' hc1 hc2 => ?_) | (apply GJ.and; exact rfl; intro hg) | (apply GJ.or; exact rfl; intro hg))
          exact Wk.outS Sup.auto (.refl _) hk2
        | true =>
          simp only [↓reduceIte] at hk
          repeat (first | exact endA | refine wkP ?_ | refine opB (fun b => ?_) | refine opA (fun a' c' hc1 hc2 => ?_) | (apply GJ.and; exact rfl; intro hg) | (apply GJ.or; exact rfl; intro hg))
          refine must3 (t := [58]) hT2 g5 Take.auto Take.auto Take.auto (fun g6 => ?_)
          generalize mustP (listE l) [58] s7 = s8 at *
          repeat (first | exact endA | refine wkP ?_ | refine opB (fun b => ?_) | refine opA (fun a' c' hc1 hc2 => ?_) | (apply GJ.and; exact rfl; intro hg) | (apply GJ.or; exact rfl; intro hg))
          refine hF.run hM2 hT2 g6 Take.auto Take.auto Take.auto (fun ro5 a5 hl5 g7 => ?_)
          generalize F s8 = kx at *
          obtain ⟨kn, s9⟩ := kx
          dsimp only at g7 hk ⊢
          repeat (first | exact endA | refine wkP ?_ | refine opB (fun b => ?_) | refine opA (fun a' c' hc1 hc2 => ?_) | (apply GJ.and; exact rfl; intro hg) | (apply GJ.or; exact rfl; intro hg))
          refine must3 (t := [59]) (hT2.up hl5) g7 Take.auto Take.auto Take.auto (fun g8 => ?_)
          generalize mustP (listE l) [59] s9 = sA at *
          repeat (first | exact endA | refine wkP ?_ | refine opB (fun b => ?_) | refine opA (fun a' c' hc1 hc2 => ?_) | (apply GJ.and; exact rfl; intro hg) | (apply GJ.or; exact rfl; intro hg))
          refine must3 (t := [125]) (hT2.up hl5) g8 Take.auto Take.auto Take.auto (fun g1 => ?_)
          generalize mustP (listE l) [125] sA = z1 at *
          repeat (first | exact endA | refine wkP ?_ | refine opB (fun b => ?_) | refine opA (fun a' c' hc1 hc2 => ?_) | (apply GJ.and; exact rfl; intro hg) | (apply GJ.or; exact rfl; intro hg))
          refine CallOk.freeze (c := .sl ca _ _ _ _ _) Take.auto (fun ro9 hl9 hc9 => ?_)
          refine radd_ok (d := { node0 with kind := 9, reg := xn, mod := 0, cases := cs, els := (kn : Int) }) (x := { nodeZ with ca := ca, cc := cc }) ((hT2.up hl5).up hl9) (g1.up hl9) ⟨Rs.nil _ 1, Rs.nil _ 1, Rs.nil _ 5, Rs.last hc9⟩ ⟨by simp [node0], by simp [node0], by simp [node0], by dsimp only; omega⟩ Take.auto Take.auto Take.auto (fun ro4 a4 hl4 h4 => ?_)
          have hk2 := hk ro4 a4 (((hl2.trans hl5).trans hl9).trans hl4) h4
          repeat (first | exact endA | refine wkP ?_ | refine opB (fun b => ?_) | refine opA (fun a' c' hc1 hc2 => ?_) | (apply GJ.and; exact rfl; intro hg) | (apply GJ.or; exact rfl; intro hg))
          exact Wk.outS Sup.auto (.refl _) hk2
      · rw [if_neg h0] at hk
        repeat (first | exact endA | refine wkP ?_ | refine opB (fun b => ?_) | refine opA (fun a' c' hc1 hc2 => ?_) | (apply GJ.and; exact rfl; intro hg) | (apply GJ.or; exact rfl; intro hg))
        refine word3 (t := [101, 108, 115, 101]) hT2 i1 Take.auto Take.auto Take.auto (fun g5 => ?_)
        generalize kwP (listE l) [101, 108, 115, 101] s = e at *
        obtain ⟨eb, s7⟩ := e
        dsimp only at g5 hk ⊢
        cases eb with
        | false =>
          simp only [Bool.false_eq_true, ↓reduceIte] at hk
          repeat (first | exact endA | refine wkP ?_ | refine opB (fun b => ?_) | refine opA (fun a' c' hc1 hc2 => ?_) | (apply GJ.and; exact rfl; intro hg) | (apply GJ.or; exact rfl; intro hg))
          refine must3 (t := [125]) (hT2) g5 Take.auto Take.auto Take.auto (fun g1 => ?_)
          generalize mustP (listE l) [125] s7 = z1 at *
          repeat (first | exact endA | refine wkP ?_ | refine opB (fun b => ?_) | refine opA (fun a' c' hc1 hc2 => ?_) | (apply GJ.and; exact rfl; intro hg) | (apply GJ.or; exact rfl; intro hg))
          refine CallOk.freeze (c := .sl ca _ _ _ _ _) Take.auto (fun ro9 hl9 hc9 => ?_)
          refine radd_ok (d := { node0 with kind := 9, reg := xn, mod := 0, cases := cs, els := -1 }) (x := { nodeZ with ca := ca, cc := cc }) ((hT2).up hl9) (g1.up hl9) ⟨Rs.nil _ 1, Rs.nil _ 1, Rs.nil _ 5, Rs.last hc9⟩ ⟨by simp [node0], by simp [node0], by simp [node0], by dsimp only; omega⟩ Take.auto Take.auto Take.auto (fun ro4 a4 hl4 h4 => ?_)
          have hk2 := hk ro4 a4 (((hl2).trans hl9).trans hl4) h4
          repeat (first | exact endA | refine wkP ?_ | refine opB (fun b => ?_) | refine opA (fun a' c' hc1 hc2 => ?_) | (apply GJ.and; exact rfl; intro hg) | (apply GJ.or; exact rfl; intro hg))
          exact Wk.outS Sup.auto (.refl _) hk2
        | true =>
          simp only [↓reduceIte] at hk
          repeat (first | exact endA | refine wkP ?_ | refine opB (fun b => ?_) | refine opA (fun a' c' hc1 hc2 => ?_) | (apply GJ.and; exact rfl; intro hg) | (apply GJ.or; exact rfl; intro hg))
          refine must3 (t := [58]) hT2 g5 Take.auto Take.auto Take.auto (fun g6 => ?_)
          generalize mustP (listE l) [58] s7 = s8 at *
          repeat (first | exact endA | refine wkP ?_ | refine opB (fun b => ?_) | refine opA (fun a' c' hc1 hc2 => ?_) | (apply GJ.and; exact rfl; intro hg) | (apply GJ.or; exact rfl; intro hg))
          refine hF.run hM2 hT2 g6 Take.auto Take.auto Take.auto (fun ro5 a5 hl5 g7 => ?_)
          generalize F s8 = kx at *
          obtain ⟨kn, s9⟩ := kx
          dsimp only at g7 hk ⊢
          repeat (first | exact endA | refine wkP ?_ | refine opB (fun b => ?_) | refine opA (fun a' c' hc1 hc2 => ?_) | (apply GJ.and; exact rfl; intro hg) | (apply GJ.or; exact rfl; intro hg))
          refine must3 (t := [59]) (hT2.up hl5) g7 Take.auto Take.auto Take.auto (fun g8 => ?_)
          generalize mustP (listE l) [59] s9 = sA at *
          repeat (first | exact endA | refine wkP ?_ | refine opB (fun b => ?_) | refine opA (fun a' c' hc1 hc2 => ?_) | (apply GJ.and; exact rfl; intro hg) | (apply GJ.or; exact rfl; intro hg))
          refine must3 (t := [125]) (hT2.up hl5) g8 Take.auto Take.auto Take.auto (fun g1 => ?_)
          generalize mustP (listE l) [125] sA = z1 at *
          repeat (first | exact endA | refine wkP ?_ | refine opB (fun b => ?_) | refine opA (fun a' c' hc1 hc2 => ?_) | (apply GJ.and; exact rfl; intro hg) | (apply GJ.or; exact rfl; intro hg))
          refine CallOk.freeze (c := .sl ca _ _ _ _ _) Take.auto (fun ro9 hl9 hc9 => ?_)
          refine radd_ok (d := { node0 with kind := 9, reg := xn, mod := 0, cases := cs, els := (kn : Int) }) (x := { nodeZ with ca := ca, cc := cc }) ((hT2.up hl5).up hl9) (g1.up hl9) ⟨Rs.nil _ 1, Rs.nil _ 1, Rs.nil _ 5, Rs.last hc9⟩ ⟨by simp [node0], by simp [node0], by simp [node0], by dsimp only; omega⟩ Take.auto Take.auto Take.auto (fun ro4 a4 hl4 h4 => ?_)
          have hk2 := hk ro4 a4 (((hl2.trans hl5).trans hl9).trans hl4) h4
          repeat (first | exact endA | refine wkP ?_ | refine opB (fun b => ?_) | refine opA (fun a' c' hc1 hc2 => ?_) | (apply GJ.and; exact rfl; intro hg) | (apply GJ.or; exact rfl; intro hg))
          exact Wk.outS Sup.auto (.refl _) hk2
    done
  | true =>
    simp only [↓reduceIte, true_and] at hk
    repeat (first | exact endA | refine wkP ?_ | refine opB (fun b => ?_) | refine opA (fun a' c' hc1 hc2 => ?_) | (apply GJ.and; exact rfl; intro hg) | (apply GJ.or; exact rfl; intro hg))
    refine num3 hT h2 Take.auto Take.auto Take.auto (fun h3 => ?_)
    have hpos : (numP numD (listE l) s2).2.code = 0 → 1 ≤ (numP numD (listE l) s2).2.at' := num_pos
    generalize numP numD (listE l) s2 = v at *
    obtain ⟨vm, s3⟩ := v
    dsimp only at h3 hk hpos ⊢
    generalize hS : (if s3.code = 0 ∧ vm = 0 then wrongP 1 (backP s3) else s3) = S at hk
    repeat (first | exact endA | refine wkP ?_ | refine opB (fun b => ?_) | refine opA (fun a' c' hc1 hc2 => ?_) | (apply GJ.and; exact rfl; intro hg) | (apply GJ.or; exact rfl; intro hg))
    refine rok_ok h3 Take.auto ?_
    by_cases hc3 : s3.code = 0
    · rw [decide_eq_true hc3]
      by_cases hb : vm = 0
      · rw [if_pos ⟨hc3, hb⟩] at hS
        subst hS
        have hpos := hpos hc3
        have hat := h3.at'
        have hl2' := hT.le
        unfold rdC readV
        repeat (first | exact endA | refine wkP ?_ | refine opB (fun b => ?_) | refine opA (fun a' c' hc1 hc2 => ?_) | (apply GJ.and; exact rfl; intro hg) | (apply GJ.or; exact rfl; intro hg))
        rw [← backC hpos]
        refine wrong3 (e := 1) (s := backP s3) (by decide) (by decide) hT h3.back Take.auto Take.auto Take.auto (fun h5 => ?_)
        generalize wrongP 1 (backP s3) = s4 at *
        repeat (first | exact endA | refine wkP ?_ | refine opB (fun b => ?_) | refine opA (fun a' c' hc1 hc2 => ?_) | (apply GJ.and; exact rfl; intro hg) | (apply GJ.or; exact rfl; intro hg))
        refine must3 (t := [123]) hT h5 Take.auto Take.auto Take.auto (fun h4 => ?_)
        generalize mustP (listE l) [123] s4 = sM at *
        obtain ⟨R, hR⟩ : ∃ R, R = casesP numD (listE l) F 70 [] sM := ⟨_, rfl⟩
        rw [← hR] at hk
        repeat (first | exact endA | refine wkP ?_ | refine opB (fun b => ?_) | refine opA (fun a' c' hc1 hc2 => ?_) | (apply GJ.and; exact rfl; intro hg) | (apply GJ.or; exact rfl; intro hg))
        refine LoopOk.auto (ι := List CaseD × PS × SpecA × Option Addr × Nat) Keep.auto (fun (cs, s, a, ca, cc) => []) (fun (cs, s, a, ca, cc) => rdC r la lc l s a :: ndC s a :: dfC s a :: .sl ca cs.length cc 97 2 (casesV cs) :: .blk bN 40 (nodeV { node0 with kind := 9, reg := xn, mod := vm, cases := cs, els := -1 } { nodeZ with ca := ca, cc := cc }) :: q) (fun (cs, s, a, ca, cc) ro2 => RdOk ro2 l s a ∧ casesP numD (listE l) F (70 - cs.length) cs s = R ∧ (cs.length ≤ 64 ∨ (cs.length = 65 ∧ s.code ≠ 0)) ∧ cs.length ≤ cc ∧ cc ≤ maxLen) (fun (cs, s, a, ca, cc) => 70 - cs.length) ([], sM, a, none, 0) ?_ Sub.auto Sup.auto ?_
        · exact ⟨h4, hR.symm, .inl (Nat.zero_le _), Nat.le_refl _, Nat.zero_le _⟩
        clear h4 hR h h1 h2
        rintro ⟨cs, s, a, ca, cc⟩ ro2 hl2 ⟨i1, i2, i3, i4, i5⟩
        dsimp only [List.cons_append, List.nil_append] at i1 i2 i3 i4 i5 ⊢
        dsimp only [nodeV, node0, nodeZ]
        have hM2 := hM.le hl2
        have hT2 := hT.up hl2
        have hfl := casesV_len' cs
        rw [show 70 - cs.length = (69 - cs.length) + 1 by omega, casesP] at i2
        repeat (first | exact endA | refine wkP ?_ | refine opB (fun b => ?_) | refine opA (fun a' c' hc1 hc2 => ?_) | (apply GJ.and; exact rfl; intro hg) | (apply GJ.or; exact rfl; intro hg))
        refine rok_ok i1 Take.auto ?_
        by_cases hc : s.code = 0
        · rw [decide_eq_true hc]
          repeat (first | exact endA | refine wkP ?_ | refine opB (fun b => ?_) | refine opA (fun a' c' hc1 hc2 => ?_) | (apply GJ.and; exact rfl; intro hg) | (apply GJ.or; exact rfl; intro hg))
          refine rpeek_ok hT2 i1 Take.auto ?_
          repeat (first | exact endA | refine wkP ?_ | refine opB (fun b => ?_) | refine opA (fun a' c' hc1 hc2 => ?_) | (apply GJ.and; exact rfl; intro hg) | (apply GJ.or; exact rfl; intro hg))
          by_cases hk2 : (peekP (listE l) s).kind = 2
          · rw [if_neg (by rintro (h | h); exact h hc; exact h hk2)] at i2
            rw [hk2]
            repeat (first | exact endA | refine wkP ?_ | refine opB (fun b => ?_) | refine opA (fun a' c' hc1 hc2 => ?_) | (apply GJ.and; exact rfl; intro hg) | (apply GJ.or; exact rfl; intro hg))
            by_cases h64 : cs.length = 64
            · rw [if_pos h64] at i2
              repeat (first | exact endA | refine wkP ?_ | refine opB (fun b => ?_) | refine opA (fun a' c' hc1 hc2 => ?_) | (apply GJ.and; exact rfl; intro hg) | (apply GJ.or; exact rfl; intro hg))
              refine wrong3 (e := 2) (by decide) (by decide) hT2 i1 Take.auto Take.auto Take.auto (fun h4 => ?_)
              have hcode : (wrongP 2 s).code ≠ 0 := by
                unfold wrongP
                rw [if_pos hc]
                exact (by decide : (2 : Nat) ≠ 0)
              generalize wrongP 2 s = s4 at *
              repeat (first | exact endA | refine wkP ?_ | refine opB (fun b => ?_) | refine opA (fun a' c' hc1 hc2 => ?_) | (apply GJ.and; exact rfl; intro hg) | (apply GJ.or; exact rfl; intro hg))
              have hstf : (s4).code ≠ 0 → (mustP (listE l) [59] (F (mustP (listE l) [58] (numP numD (listE l) s4).2)).2).code ≠ 0 := fun hh => by
                haveI := sticky_clo l
                exact (InP.must (E := listE l) (I := fun s => s.code ≠ 0) ⟨hst _ (InP.must (E := listE l) (I := fun s => s.code ≠ 0) (InP.num (wideP := numD) ⟨hh⟩) [58]).get⟩ [59]).get
              dsimp only at i2
              refine num3 hT2 h4 Take.auto Take.auto Take.auto (fun h5 => ?_)
              generalize numP numD (listE l) s4 = v at *
              obtain ⟨vn, s5⟩ := v
              dsimp only at h5 i2 hstf ⊢
              repeat (first | exact endA | refine wkP ?_ | refine opB (fun b => ?_) | refine opA (fun a' c' hc1 hc2 => ?_) | (apply GJ.and; exact rfl; intro hg) | (apply GJ.or; exact rfl; intro hg))
              obtain ⟨bC, hbC⟩ : ∃ z : Nat, z = b := ⟨_, rfl⟩
              subst hbC
              refine must3 (t := [58]) hT2 h5 Take.auto Take.auto Take.auto (fun h6 => ?_)
              generalize mustP (listE l) [58] s5 = s6 at *
              repeat (first | exact endA | refine wkP ?_ | refine opB (fun b => ?_) | refine opA (fun a' c' hc1 hc2 => ?_) | (apply GJ.and; exact rfl; intro hg) | (apply GJ.or; exact rfl; intro hg))
              refine hF.run hM2 hT2 h6 Take.auto Take.auto Take.auto (fun ro3 a3 hl3 h7 => ?_)
              generalize F s6 = kx at *
              obtain ⟨kn, s7⟩ := kx
              dsimp only at h7 i2 hstf ⊢
              repeat (first | exact endA | refine wkP ?_ | refine opB (fun b => ?_) | refine opA (fun a' c' hc1 hc2 => ?_) | (apply GJ.and; exact rfl; intro hg) | (apply GJ.or; exact rfl; intro hg))
              refine must3 (t := [59]) (hT2.up hl3) h7 Take.auto Take.auto Take.auto (fun h8 => ?_)
              generalize mustP (listE l) [59] s7 = s8 at *
              repeat (first | exact endA | refine wkP ?_ | refine opB (fun b => ?_) | refine opA (fun a' c' hc1 hc2 => ?_) | (apply GJ.and; exact rfl; intro hg) | (apply GJ.or; exact rfl; intro hg))
              have e2 : casesV cs ++ flat [Value.agg #[.int .u64 (vn : Int), .int .i64 (kn : Int)]] = casesV (cs ++ [⟨vn, kn⟩]) := by simp [casesV, flat, caseV, Value.cells]
              have e1 : cs.length + 1 = (cs ++ [(⟨vn, kn⟩ : CaseD)]).length := by simp
              rw [e2]
              rw [e1] at hc1 ⊢
              repeat (first | exact endA | refine wkP ?_ | refine opB (fun b => ?_) | refine opA (fun a' c' hc1 hc2 => ?_) | (apply GJ.and; exact rfl; intro hg) | (apply GJ.or; exact rfl; intro hg))
              refine Wk.id ⟨(cs ++ [⟨vn, kn⟩], s8, a3, a', c'), ?_, ?_, Sub.auto, Sup.auto⟩
              all_goals try dsimp only
              · refine ⟨h8, by rw [← e1, show 70 - (cs.length + 1) = 69 - cs.length by omega]; exact i2, ?_, hc1, hc2⟩
                rw [← e1]
                exact .inr ⟨by omega, hstf hcode⟩
              · rw [← e1]; omega
            · rw [if_neg h64] at i2
              have hle : cs.length ≤ 63 := by
                rcases i3 with h | ⟨h, hh⟩
                · omega
                · exact absurd hc hh
              repeat (first | exact endA | refine wkP ?_ | refine opB (fun b => ?_) | refine opA (fun a' c' hc1 hc2 => ?_) | (apply GJ.and; exact rfl; intro hg) | (apply GJ.or; exact rfl; intro hg))
              repeat (first | exact endA | refine wkP ?_ | refine opB (fun b => ?_) | refine opA (fun a' c' hc1 hc2 => ?_) | (apply GJ.and; exact rfl; intro hg) | (apply GJ.or; exact rfl; intro hg))
              have hstf : (s).code ≠ 0 → (mustP (listE l) [59] (F (mustP (listE l) [58] (numP numD (listE l) s).2)).2).code ≠ 0 := fun hh => by
                haveI := sticky_clo l
                exact (InP.must (E := listE l) (I := fun s => s.code ≠ 0) ⟨hst _ (InP.must (E := listE l) (I := fun s => s.code ≠ 0) (InP.num (wideP := numD) ⟨hh⟩) [58]).get⟩ [59]).get
              dsimp only at i2
              refine num3 hT2 i1 Take.auto Take.auto Take.auto (fun h5 => ?_)
              generalize numP numD (listE l) s = v at *
              obtain ⟨vn, s5⟩ := v
              dsimp only at h5 i2 hstf ⊢
              repeat (first | exact endA | refine wkP ?_ | refine opB (fun b => ?_) | refine opA (fun a' c' hc1 hc2 => ?_) | (apply GJ.and; exact rfl; intro hg) | (apply GJ.or; exact rfl; intro hg))
              obtain ⟨bC, hbC⟩ : ∃ z : Nat, z = b := ⟨_, rfl⟩
              subst hbC
              refine must3 (t := [58]) hT2 h5 Take.auto Take.auto Take.auto (fun h6 => ?_)
              generalize mustP (listE l) [58] s5 = s6 at *
              repeat (first | exact endA | refine wkP ?_ | refine opB (fun b => ?_) | refine opA (fun a' c' hc1 hc2 => ?_) | (apply GJ.and; exact rfl; intro hg) | (apply GJ.or; exact rfl; intro hg))
              refine hF.run hM2 hT2 h6 Take.auto Take.auto Take.auto (fun ro3 a3 hl3 h7 => ?_)
              generalize F s6 = kx at *
              obtain ⟨kn, s7⟩ := kx
              dsimp only at h7 i2 hstf ⊢
              repeat (first | exact endA | refine wkP ?_ | refine opB (fun b => ?_) | refine opA (fun a' c' hc1 hc2 => ?_) | (apply GJ.and; exact rfl; intro hg) | (apply GJ.or; exact rfl; intro hg))
              refine must3 (t := [59]) (hT2.up hl3) h7 Take.auto Take.auto Take.auto (fun h8 => ?_)
              generalize mustP (listE l) [59] s7 = s8 at *
              repeat (first | exact endA | refine wkP ?_ | refine opB (fun b => ?_) | refine opA (fun a' c' hc1 hc2 => ?_) | (apply GJ.and; exact rfl; intro hg) | (apply GJ.or; exact rfl; intro hg))
              have e2 : casesV cs ++ flat [Value.agg #[.int .u64 (vn : Int), .int .i64 (kn : Int)]] = casesV (cs ++ [⟨vn, kn⟩]) := by simp [casesV, flat, caseV, Value.cells]
              have e1 : cs.length + 1 = (cs ++ [(⟨vn, kn⟩ : CaseD)]).length := by simp
              rw [e2]
              rw [e1] at hc1 ⊢
              repeat (first | exact endA | refine wkP ?_ | refine opB (fun b => ?_) | refine opA (fun a' c' hc1 hc2 => ?_) | (apply GJ.and; exact rfl; intro hg) | (apply GJ.or; exact rfl; intro hg))
              refine Wk.id ⟨(cs ++ [⟨vn, kn⟩], s8, a3, a', c'), ?_, ?_, Sub.auto, Sup.auto⟩
              all_goals try dsimp only
              · refine ⟨h8, by rw [← e1, show 70 - (cs.length + 1) = 69 - cs.length by omega]; exact i2, ?_, hc1, hc2⟩
                rw [← e1]
                exact .inl (by omega)
              · rw [← e1]; omega
          · rw [if_pos (.inr hk2)] at i2
            subst i2
            dsimp only at hk
            repeat (first | exact endA | refine wkP ?_ | refine opB (fun b => ?_) | refine opA (fun a' c' hc1 hc2 => ?_) | (apply GJ.and; exact rfl; intro hg) | (apply GJ.or; exact rfl; intro hg))
            by_cases h0 : cs.length = 0
            · rw [if_pos h0] at hk
              repeat (first | exact endA | refine wkP ?_ | refine opB (fun b => ?_) | refine opA (fun a' c' hc1 hc2 => ?_) | (apply GJ.and; exact rfl; intro hg) | (apply GJ.or; exact rfl; intro hg))
              refine wrong3 (e := 5) (by decide) (by decide) hT2 i1 Take.auto Take.auto Take.auto (fun h6 => ?_)
              generalize wrongP 5 s = s6 at *
              repeat (first | exact endA | refine wkP ?_ | refine opB (fun b => ?_) | refine opA (fun a' c' hc1 hc2 => ?_) | (apply GJ.and; exact rfl; intro hg) | (apply GJ.or; exact rfl; intro hg))
              refine word3 (t := [101, 108, 115, 101]) hT2 h6 Take.auto Take.auto Take.auto (fun g5 => ?_)
              generalize kwP (listE l) [101, 108, 115, 101] s6 = e at *
              obtain ⟨eb, s7⟩ := e
              dsimp only at g5 hk ⊢
              cases eb with
              | false =>
                simp only [Bool.false_eq_true, ↓reduceIte] at hk
                repeat (first | exact endA | refine wkP ?_ | refine opB (fun b => ?_) | refine opA (fun a' c' hc1 hc2 => ?_) | (apply GJ.and; exact rfl; intro hg) | (apply GJ.or; exact rfl; intro hg))
                refine must3 (t := [125]) (hT2) g5 Take.auto Take.auto Take.auto (fun g1 => ?_)
                generalize mustP (listE l) [125] s7 = z1 at *
                repeat (first | exact endA | refine wkP ?_ | refine opB (fun b => ?_) | refine opA (fun a' c' hc1 hc2 => ?_) | (apply GJ.and; exact rfl; intro hg) | (apply GJ.or; exact rfl; intro hg))
                refine CallOk.freeze (c := .sl ca _ _ _ _ _) Take.auto (fun ro9 hl9 hc9 => ?_)
                refine radd_ok (d := { node0 with kind := 9, reg := xn, mod := vm, cases := cs, els := -1 }) (x := { nodeZ with ca := ca, cc := cc }) ((hT2).up hl9) (g1.up hl9) ⟨Rs.nil _ 1, Rs.nil _ 1, Rs.nil _ 5, Rs.last hc9⟩ ⟨by simp [node0], by simp [node0], by simp [node0], by dsimp only; omega⟩ Take.auto Take.auto Take.auto (fun ro4 a4 hl4 h4 => ?_)
                have hk2 := hk ro4 a4 (((hl2).trans hl9).trans hl4) h4
                repeat (first | exact endA | refine wkP ?_ | refine opB (fun b => ?_) | refine opA (fun a' c' hc1 hc2 => ?_) | (apply GJ.and; exact rfl; intro hg) | (apply GJ.or; exact rfl; intro hg))
                exact Wk.outS Sup.auto (.refl _) hk2
              | true =>
                simp only [↓reduceIte] at hk
                repeat (first | exact endA | refine wkP ?_ | refine opB (fun b => ?_) | refine opA (fun a' c' hc1 hc2 => ?_) | (apply GJ.and; exact rfl; intro hg) | (apply GJ.or; exact rfl; intro hg))
                refine must3 (t := [58]) hT2 g5 Take.auto Take.auto Take.auto (fun g6 => ?_)
                generalize mustP (listE l) [58] s7 = s8 at *
                repeat (first | exact endA | refine wkP ?_ | refine opB (fun b => ?_) | refine opA (fun a' c' hc1 hc2 => ?_) | (apply GJ.and; exact rfl; intro hg) | (apply GJ.or; exact rfl; intro hg))
                refine hF.run hM2 hT2 g6 Take.auto Take.auto Take.auto (fun ro5 a5 hl5 g7 => ?_)
                generalize F s8 = kx at *
                obtain ⟨kn, s9⟩ := kx
                dsimp only at g7 hk ⊢
                repeat (first | exact endA | refine wkP ?_ | refine opB (fun b => ?_) | refine opA (fun a' c' hc1 hc2 => ?_) | (apply GJ.and; exact rfl; intro hg) | (apply GJ.or; exact rfl; intro hg))
                refine must3 (t := [59]) (hT2.up hl5) g7 Take.auto Take.auto Take.auto (fun g8 => ?_)
                generalize mustP (listE l) [59] s9 = sA at *
                repeat (first | exact endA | refine wkP ?_ | refine opB (fun b => ?_) | refine opA (fun a' c' hc1 hc2 => ?_) | (apply GJ.and; exact rfl; intro hg) | (apply GJ.or; exact rfl; intro hg))
                refine must3 (t := [125]) (hT2.up hl5) g8 Take.auto Take.auto Take.auto (fun g1 => ?_)
                generalize mustP (listE l) [125] sA = z1 at *
                repeat (first | exact endA | refine wkP ?_ | refine opB (fun b => ?_) | refine opA (fun a' c' hc1 hc2 => ?_) | (apply GJ.and; exact rfl; intro hg) | (apply GJ.or; exact rfl; intro hg))
                refine CallOk.freeze (c := .sl ca _ _ _ _ _) Take.auto (fun ro9 hl9 hc9 => ?_)
                refine radd_ok (d := { node0 with kind := 9, reg := xn, mod := vm, cases := cs, els := (kn : Int) }) (x := { nodeZ with ca := ca, cc := cc }) ((hT2.up hl5).up hl9) (g1.up hl9) ⟨Rs.nil _ 1, Rs.nil _ 1, Rs.nil _ 5, Rs.last hc9⟩ ⟨by simp [node0], by simp [node0], by simp [node0], by dsimp only; omega⟩ Take.auto Take.auto Take.auto (fun ro4 a4 hl4 h4 => ?_)
                have hk2 := hk ro4 a4 (((hl2.trans hl5).trans hl9).trans hl4) h4
                repeat (first | exact endA | refine wkP ?_ | refine opB (fun b => ?_) | refine opA (fun a' c' hc1 hc2 => ?_) | (apply GJ.and; exact rfl; intro hg) | (apply GJ.or; exact rfl; intro hg))
                exact Wk.outS Sup.auto (.refl _) hk2
            · rw [if_neg h0] at hk
              repeat (first | exact endA | refine wkP ?_ | refine opB (fun b => ?_) | refine opA (fun a' c' hc1 hc2 => ?_) | (apply GJ.and; exact rfl; intro hg) | (apply GJ.or; exact rfl; intro hg))
              refine word3 (t := [101, 108, 115, 101]) hT2 i1 Take.auto Take.auto Take.auto (fun g5 => ?_)
              generalize kwP (listE l) [101, 108, 115, 101] s = e at *
              obtain ⟨eb, s7⟩ := e
              dsimp only at g5 hk ⊢
              cases eb with
              | false =>
                simp only [Bool.false_eq_true, ↓reduceIte] at hk
                repeat (first | exact endA | refine wkP ?_ | refine opB (fun b => ?_) | refine opA (fun a' c' hc1 hc2 => ?_) | (apply GJ.and; exact rfl; intro hg) | (apply GJ.or; exact rfl; intro hg))
                refine must3 (t := [125]) (hT2) g5 Take.auto Take.auto Take.auto (fun g1 => ?_)
                generalize mustP (listE l) [125] s7 = z1 at *
                repeat (first | exact endA | refine wkP ?_ | refine opB (fun b => ?_) | refine opA (fun a' c' hc1 hc2 => ?_) | (apply GJ.and; exact rfl; intro hg) | (apply GJ.or; exact rfl; intro hg))
                refine CallOk.freeze (c := .sl ca _ _ _ _ _) Take.auto (fun ro9 hl9 hc9 => ?_)
                refine radd_ok (d := { node0 with kind := 9, reg := xn, mod := vm, cases := cs, els := -1 }) (x := { nodeZ with ca := ca, cc := cc }) ((hT2).up hl9) (g1.up hl9) ⟨Rs.nil _ 1, Rs.nil _ 1, Rs.nil _ 5, Rs.last hc9⟩ ⟨by simp [node0], by simp [node0], by simp [node0], by dsimp only; omega⟩ Take.auto Take.auto Take.auto (fun ro4 a4 hl4 h4 => ?_)
                have hk2 := hk ro4 a4 (((hl2).trans hl9).trans hl4) h4
                repeat (first | exact endA | refine wkP ?_ | refine opB (fun b => ?_) | refine opA (fun a' c' hc1 hc2 => ?_) | (apply GJ.and; exact rfl; intro hg) | (apply GJ.or; exact rfl; intro hg))
                exact Wk.outS Sup.auto (.refl _) hk2
              | true =>
                simp only [↓reduceIte] at hk
                repeat (first | exact endA | refine wkP ?_ | refine opB (fun b => ?_) | refine opA (fun a' c' hc1 hc2 => ?_) | (apply GJ.and; exact rfl; intro hg) | (apply GJ.or; exact rfl; intro hg))
                refine must3 (t := [58]) hT2 g5 Take.auto Take.auto Take.auto (fun g6 => ?_)
                generalize mustP (listE l) [58] s7 = s8 at *
                repeat (first | exact endA | refine wkP ?_ | refine opB (fun b => ?_) | refine opA (fun a' c' hc1 hc2 => ?_) | (apply GJ.and; exact rfl; intro hg) | (apply GJ.or; exact rfl; intro hg))
                refine hF.run hM2 hT2 g6 Take.auto Take.auto Take.auto (fun ro5 a5 hl5 g7 => ?_)
                generalize F s8 = kx at *
                obtain ⟨kn, s9⟩ := kx
                dsimp only at g7 hk ⊢
                repeat (first | exact endA | refine wkP ?_ | refine opB (fun b => ?_) | refine opA (fun a' c' hc1 hc2 => ?_) | (apply GJ.and; exact rfl; intro hg) | (apply GJ.or; exact rfl; intro hg))
                refine must3 (t := [59]) (hT2.up hl5) g7 Take.auto Take.auto Take.auto (fun g8 => ?_)
                generalize mustP (listE l) [59] s9 = sA at *
                repeat (first | exact endA | refine wkP ?_ | refine opB (fun b => ?_) | refine opA (fun a' c' hc1 hc2 => ?_) | (apply GJ.and; exact rfl; intro hg) | (apply GJ.or; exact rfl; intro hg))
                refine must3 (t := [125]) (hT2.up hl5) g8 Take.auto Take.auto Take.auto (fun g1 => ?_)
                generalize mustP (listE l) [125] sA = z1 at *
                repeat (first | exact endA | refine wkP ?_ | refine opB (fun b => ?_) | refine opA (fun a' c' hc1 hc2 => ?_) | (apply GJ.and; exact rfl; intro hg) | (apply GJ.or; exact rfl; intro hg))
                refine CallOk.freeze (c := .sl ca _ _ _ _ _) Take.auto (fun ro9 hl9 hc9 => ?_)
                refine radd_ok (d := { node0 with kind := 9, reg := xn, mod := vm, cases := cs, els := (kn : Int) }) (x := { nodeZ with ca := ca, cc := cc }) ((hT2.up hl5).up hl9) (g1.up hl9) ⟨Rs.nil _ 1, Rs.nil _ 1, Rs.nil _ 5, Rs.last hc9⟩ ⟨by simp [node0], by simp [node0], by simp [node0], by dsimp only; omega⟩ Take.auto Take.auto Take.auto (fun ro4 a4 hl4 h4 => ?_)
                have hk2 := hk ro4 a4 (((hl2.trans hl5).trans hl9).trans hl4) h4
                repeat (first | exact endA | refine wkP ?_ | refine opB (fun b => ?_) | refine opA (fun a' c' hc1 hc2 => ?_) | (apply GJ.and; exact rfl; intro hg) | (apply GJ.or; exact rfl; intro hg))
                exact Wk.outS Sup.auto (.refl _) hk2
        · rw [if_pos (.inl hc)] at i2
          subst i2
          dsimp only at hk
          rw [decide_eq_false hc]
          repeat (first | exact endA | refine wkP ?_ | refine opB (fun b => ?_) | refine opA (fun a' c' hc1 hc2 => ?_) | (apply GJ.and; exact rfl; intro hg) | (apply GJ.or; exact rfl; intro hg))
          by_cases h0 : cs.length = 0
          · rw [if_pos h0] at hk
            repeat (first | exact endA | refine wkP ?_ | refine opB (fun b => ?_) | refine opA (fun a' c' hc1 hc2 => ?_) | (apply GJ.and; exact rfl; intro hg) | (apply GJ.or; exact rfl; intro hg))
            refine wrong3 (e := 5) (by decide) (by decide) hT2 i1 Take.auto Take.auto Take.auto (fun h6 => ?_)
            generalize wrongP 5 s = s6 at *
            repeat (first | exact endA | refine wkP ?_ | refine opB (fun b => ?_) | refine opA (fun a' c' hc1 hc2 => ?_) | (apply GJ.and; exact rfl; intro hg) | (apply GJ.or; exact rfl; intro hg))
            refine word3 (t := [101, 108, 115, 101]) hT2 h6 Take.auto Take.auto Take.auto (fun g5 => ?_)
            generalize kwP (listE l) [101, 108, 115, 101] s6 = e at *
            obtain ⟨eb, s7⟩ := e
            dsimp only at g5 hk ⊢
            cases eb with
            | false =>
              simp only [Bool.false_eq_true, ↓reduceIte] at hk
              repeat (first | exact endA | refine wkP ?_ | refine opB (fun b => ?_) | refine opA (fun a' c' hc1 hc2 => ?_) | (apply GJ.and; exact rfl; intro hg) | (apply GJ.or; exact rfl; intro hg))
              refine must3 (t := [125]) (hT2) g5 Take.auto Take.auto Take.auto (fun g1 => ?_)
              generalize mustP (listE l) [125] s7 = z1 at *
              repeat (first | exact endA | refine wkP ?_ | refine opB (fun b => ?_) | refine opA (fun a' c' hc1 hc2 => ?_) | (apply GJ.and; exact rfl; intro hg) | (apply GJ.or; exact rfl; intro hg))
              refine CallOk.freeze (c := .sl ca _ _ _ _ _) Take.auto (fun ro9 hl9 hc9 => ?_)
              refine radd_ok (d := { node0 with kind := 9, reg := xn, mod := vm, cases := cs, els := -1 }) (x := { nodeZ with ca := ca, cc := cc }) ((hT2).up hl9) (g1.up hl9) ⟨Rs.nil _ 1, Rs.nil _ 1, Rs.nil _ 5, Rs.last hc9⟩ ⟨by simp [node0], by simp [node0], by simp [node0], by dsimp only; omega⟩ Take.auto Take.auto Take.auto (fun ro4 a4 hl4 h4 => ?_)
              have hk2 := hk ro4 a4 (((hl2).trans hl9).trans hl4) h4
              repeat (first | exact endA | refine wkP ?_ | refine opB (fun b => ?_) | refine opA (fun a' c' hc1 hc2 => ?_) | (apply GJ.and; exact rfl; intro hg) | (apply GJ.or; exact rfl; intro hg))
              exact Wk.outS Sup.auto (.refl _) hk2
            | true =>
              simp only [↓reduceIte] at hk
              repeat (first | exact endA | refine wkP ?_ | refine opB (fun b => ?_) | refine opA (fun a' c' hc1 hc2 => ?_) | (apply GJ.and; exact rfl; intro hg) | (apply GJ.or; exact rfl; intro hg))
              refine must3 (t := [58]) hT2 g5 Take.auto Take.auto Take.auto (fun g6 => ?_)
              generalize mustP (listE l) [58] s7 = s8 at *
              repeat (first | exact endA | refine wkP ?_ | refine opB (fun b => ?_) | refine opA (fun a' c' hc1 hc2 => ?_) | (apply GJ.and; exact rfl; intro hg) | (apply GJ.or; exact rfl; intro hg))
              refine hF.run hM2 hT2 g6 Take.auto Take.auto Take.auto (fun ro5 a5 hl5 g7 => ?_)
              generalize F s8 = kx at *
              obtain ⟨kn, s9⟩ := kx
              dsimp only at g7 hk ⊢
              repeat (first | exact endA | refine wkP ?_ | refine opB (fun b => ?_) | refine opA (fun a' c' hc1 hc2 => ?_) | (apply GJ.and; exact rfl; intro hg) | (apply GJ.or; exact rfl; intro hg))
              refine must3 (t := [59]) (hT2.up hl5) g7 Take.auto Take.auto Take.auto (fun g8 => ?_)
              generalize mustP (listE l) [59] s9 = sA at *
              repeat (first | exact endA | refine wkP ?_ | refine opB (fun b => ?_) | refine opA (fun a' c' hc1 hc2 => ?_) | (apply GJ.and; exact rfl; intro hg) | (apply GJ.or; exact rfl; intro hg))
              refine must3 (t := [125]) (hT2.up hl5) g8 Take.auto Take.auto Take.auto (fun g1 => ?_)
              generalize mustP (listE l) [125] sA = z1 at *
              repeat (first | exact endA | refine wkP ?_ | refine opB (fun b => ?_) | refine opA (fun a' c' hc1 hc2 => ?_) | (apply GJ.and; exact rfl; intro hg) | (apply GJ.or; exact rfl; intro hg))
              refine CallOk.freeze (c := .sl ca _ _ _ _ _) Take.auto (fun ro9 hl9 hc9 => ?_)
              refine radd_ok (d := { node0 with kind := 9, reg := xn, mod := vm, cases := cs, els := (kn : Int) }) (x := { nodeZ with ca := ca, cc := cc }) ((hT2.up hl5).up hl9) (g1.up hl9) ⟨Rs.nil _ 1, Rs.nil _ 1, Rs.nil _ 5, Rs.last hc9⟩ ⟨by simp [node0], by simp [node0], by simp [node0], by dsimp only; omega⟩ Take.auto Take.auto Take.auto (fun ro4 a4 hl4 h4 => ?_)
              have hk2 := hk ro4 a4 (((hl2.trans hl5).trans hl9).trans hl4) h4
              repeat (first | exact endA | refine wkP ?_ | refine opB (fun b => ?_) | refine opA (fun a' c' hc1 hc2 => ?_) | (apply GJ.and; exact rfl; intro hg) | (apply GJ.or; exact rfl; intro hg))
              exact Wk.outS Sup.auto (.refl _) hk2
          · rw [if_neg h0] at hk
            repeat (first | exact endA | refine wkP ?_ | refine opB (fun b => ?_) | refine opA (fun a' c' hc1 hc2 => ?_) | (apply GJ.and; exact rfl; intro hg) | (apply GJ.or; exact rfl; intro hg))
            refine word3 (t := [101, 108, 115, 101]) hT2 i1 Take.auto Take.auto Take.auto (fun g5 => ?_)
            generalize kwP (listE l) [101, 108, 115, 101] s = e at *
            obtain ⟨eb, s7⟩ := e
            dsimp only at g5 hk ⊢
            cases eb with
            | false =>
              simp only [Bool.false_eq_true, ↓reduceIte] at hk
              repeat (first | exact endA | refine wkP ?_ | refine opB (fun b => ?_) | refine opA (fun a' c' hc1 hc2 => ?_) | (apply GJ.and; exact rfl; intro hg) | (apply GJ.or; exact rfl; intro hg))
              refine must3 (t := [125]) (hT2) g5 Take.auto Take.auto Take.auto (fun g1 => ?_)
              generalize mustP (listE l) [125] s7 = z1 at *
              repeat (first | exact endA | refine wkP ?_ | refine opB (fun b => ?_) | refine opA (fun a' c' hc1 hc2 => ?_) | (apply GJ.and; exact rfl; intro hg) | (apply GJ.or; exact rfl; intro hg))
              refine CallOk.freeze (c := .sl ca _ _ _ _ _) Take.auto (fun ro9 hl9 hc9 => ?_)
              refine radd_ok (d := { node0 with kind := 9, reg := xn, mod := vm, cases := cs, els := -1 }) (x := { nodeZ with ca := ca, cc := cc }) ((hT2).up hl9) (g1.up hl9) ⟨Rs.nil _ 1, Rs.nil _ 1, Rs.nil _ 5, Rs.last hc9⟩ ⟨by simp [node0], by simp [node0], by simp [node0], by dsimp only; omega⟩ Take.auto Take.auto Take.auto (fun ro4 a4 hl4 h4 => ?_)
              have hk2 := hk ro4 a4 (((hl2).trans hl9).trans hl4) h4
              repeat (first | exact endA | refine wkP ?_ | refine opB (fun b => ?_) | refine opA (fun a' c' hc1 hc2 => ?_) | (apply GJ.and; exact rfl; intro hg) | (apply GJ.or; exact rfl; intro hg))
              exact Wk.outS Sup.auto (.refl _) hk2
            | true =>
              simp only [↓reduceIte] at hk
              repeat (first | exact endA | refine wkP ?_ | refine opB (fun b => ?_) | refine opA (fun a' c' hc1 hc2 => ?_) | (apply GJ.and; exact rfl; intro hg) | (apply GJ.or; exact rfl; intro hg))
              refine must3 (t := [58]) hT2 g5 Take.auto Take.auto Take.auto (fun g6 => ?_)
              generalize mustP (listE l) [58] s7 = s8 at *
              repeat (first | exact endA | refine wkP ?_ | refine opB (fun b => ?_) | refine opA (fun a' c' hc1 hc2 => ?_) | (apply GJ.and; exact rfl; intro hg) | (apply GJ.or; exact rfl; intro hg))
              refine hF.run hM2 hT2 g6 Take.auto Take.auto Take.auto (fun ro5 a5 hl5 g7 => ?_)
              generalize F s8 = kx at *
              obtain ⟨kn, s9⟩ := kx
              dsimp only at g7 hk ⊢
              repeat (first | exact endA | refine wkP ?_ | refine opB (fun b => ?_) | refine opA (fun a' c' hc1 hc2 => ?_) | (apply GJ.and; exact rfl; intro hg) | (apply GJ.or; exact rfl; intro hg))
              refine must3 (t := [59]) (hT2.up hl5) g7 Take.auto Take.auto Take.auto (fun g8 => ?_)
              generalize mustP (listE l) [59] s9 = sA at *
              repeat (first | exact endA | refine wkP ?_ | refine opB (fun b => ?_) | refine opA (fun a' c' hc1 hc2 => ?_) | (apply GJ.and; exact rfl; intro hg) | (apply GJ.or; exact rfl; intro hg))
              refine must3 (t := [125]) (hT2.up hl5) g8 Take.auto Take.auto Take.auto (fun g1 => ?_)
              generalize mustP (listE l) [125] sA = z1 at *
              repeat (first | exact endA | refine wkP ?_ | refine opB (fun b => ?_) | refine opA (fun a' c' hc1 hc2 => ?_) | (apply GJ.and; exact rfl; intro hg) | (apply GJ.or; exact rfl; intro hg))
              refine CallOk.freeze (c := .sl ca _ _ _ _ _) Take.auto (fun ro9 hl9 hc9 => ?_)
              refine radd_ok (d := { node0 with kind := 9, reg := xn, mod := vm, cases := cs, els := (kn : Int) }) (x := { nodeZ with ca := ca, cc := cc }) ((hT2.up hl5).up hl9) (g1.up hl9) ⟨Rs.nil _ 1, Rs.nil _ 1, Rs.nil _ 5, Rs.last hc9⟩ ⟨by simp [node0], by simp [node0], by simp [node0], by dsimp only; omega⟩ Take.auto Take.auto Take.auto (fun ro4 a4 hl4 h4 => ?_)
              have hk2 := hk ro4 a4 (((hl2.trans hl5).trans hl9).trans hl4) h4
              repeat (first | exact endA | refine wkP ?_ | refine opB (fun b => ?_) | refine opA (fun a' c' hc1 hc2 => ?_) | (apply GJ.and; exact rfl; intro hg) | (apply GJ.or; exact rfl; intro hg))
              exact Wk.outS Sup.auto (.refl _) hk2
      · rw [if_neg (fun h => hb h.2)] at hS
        subst hS
        repeat (first | exact endA | refine wkP ?_ | refine opB (fun b => ?_) | refine opA (fun a' c' hc1 hc2 => ?_) | (apply GJ.and; exact rfl; intro hg) | (apply GJ.or; exact rfl; intro hg))
        refine must3 (t := [123]) hT h3 Take.auto Take.auto Take.auto (fun h4 => ?_)
        generalize mustP (listE l) [123] s3 = sM at *
        obtain ⟨R, hR⟩ : ∃ R, R = casesP numD (listE l) F 70 [] sM := ⟨_, rfl⟩
        rw [← hR] at hk
        repeat (first | exact endA | refine wkP ?_ | refine opB (fun b => ?_) | refine opA (fun a' c' hc1 hc2 => ?_) | (apply GJ.and; exact rfl; intro hg) | (apply GJ.or; exact rfl; intro hg))
        refine LoopOk.auto (ι := List CaseD × PS × SpecA × Option Addr × Nat) Keep.auto (fun (cs, s, a, ca, cc) => []) (fun (cs, s, a, ca, cc) => rdC r la lc l s a :: ndC s a :: dfC s a :: .sl ca cs.length cc 97 2 (casesV cs) :: .blk bN 40 (nodeV { node0 with kind := 9, reg := xn, mod := vm, cases := cs, els := -1 } { nodeZ with ca := ca, cc := cc }) :: q) (fun (cs, s, a, ca, cc) ro2 => RdOk ro2 l s a ∧ casesP numD (listE l) F (70 - cs.length) cs s = R ∧ (cs.length ≤ 64 ∨ (cs.length = 65 ∧ s.code ≠ 0)) ∧ cs.length ≤ cc ∧ cc ≤ maxLen) (fun (cs, s, a, ca, cc) => 70 - cs.length) ([], sM, a, none, 0) ?_ Sub.auto Sup.auto ?_
        · exact ⟨h4, hR.symm, .inl (Nat.zero_le _), Nat.le_refl _, Nat.zero_le _⟩
        clear h4 hR h h1 h2
        rintro ⟨cs, s, a, ca, cc⟩ ro2 hl2 ⟨i1, i2, i3, i4, i5⟩
        dsimp only [List.cons_append, List.nil_append] at i1 i2 i3 i4 i5 ⊢
        dsimp only [nodeV, node0, nodeZ]
        have hM2 := hM.le hl2
        have hT2 := hT.up hl2
        have hfl := casesV_len' cs
        rw [show 70 - cs.length = (69 - cs.length) + 1 by omega, casesP] at i2
        repeat (first | exact endA | refine wkP ?_ | refine opB (fun b => ?_) | refine opA (fun a' c' hc1 hc2 => ?_) | (apply GJ.and; exact rfl; intro hg) | (apply GJ.or; exact rfl; intro hg))
        refine rok_ok i1 Take.auto ?_
        by_cases hc : s.code = 0
        · rw [decide_eq_true hc]
          repeat (first | exact endA | refine wkP ?_ | refine opB (fun b => ?_) | refine opA (fun a' c' hc1 hc2 => ?_) | (apply GJ.and; exact rfl; intro hg) | (apply GJ.or; exact rfl; intro hg))
          refine rpeek_ok hT2 i1 Take.auto ?_
          repeat (first | exact endA | refine wkP ?_ | refine opB (fun b => ?_) | refine opA (fun a' c' hc1 hc2 => ?_) | (apply GJ.and; exact rfl; intro hg) | (apply GJ.or; exact rfl; intro hg))
          by_cases hk2 : (peekP (listE l) s).kind = 2
          · rw [if_neg (by rintro (h | h); exact h hc; exact h hk2)] at i2
            rw [hk2]
            repeat (first | exact endA | refine wkP ?_ | refine opB (fun b => ?_) | refine opA (fun a' c' hc1 hc2 => ?_) | (apply GJ.and; exact rfl; intro hg) | (apply GJ.or; exact rfl; intro hg))
            by_cases h64 : cs.length = 64
            · rw [if_pos h64] at i2
              repeat (first | exact endA | refine wkP ?_ | refine opB (fun b => ?_) | refine opA (fun a' c' hc1 hc2 => ?_) | (apply GJ.and; exact rfl; intro hg) | (apply GJ.or; exact rfl; intro hg))
              refine wrong3 (e := 2) (by decide) (by decide) hT2 i1 Take.auto Take.auto Take.auto (fun h4 => ?_)
              have hcode : (wrongP 2 s).code ≠ 0 := by
                unfold wrongP
                rw [if_pos hc]
                exact (by decide : (2 : Nat) ≠ 0)
              generalize wrongP 2 s = s4 at *
              repeat (first | exact endA | refine wkP ?_ | refine opB (fun b => ?_) | refine opA (fun a' c' hc1 hc2 => ?_) | (apply GJ.and; exact rfl; intro hg) | (apply GJ.or; exact rfl; intro hg))
              have hstf : (s4).code ≠ 0 → (mustP (listE l) [59] (F (mustP (listE l) [58] (numP numD (listE l) s4).2)).2).code ≠ 0 := fun hh => by
                haveI := sticky_clo l
                exact (InP.must (E := listE l) (I := fun s => s.code ≠ 0) ⟨hst _ (InP.must (E := listE l) (I := fun s => s.code ≠ 0) (InP.num (wideP := numD) ⟨hh⟩) [58]).get⟩ [59]).get
              dsimp only at i2
              refine num3 hT2 h4 Take.auto Take.auto Take.auto (fun h5 => ?_)
              generalize numP numD (listE l) s4 = v at *
              obtain ⟨vn, s5⟩ := v
              dsimp only at h5 i2 hstf ⊢
              repeat (first | exact endA | refine wkP ?_ | refine opB (fun b => ?_) | refine opA (fun a' c' hc1 hc2 => ?_) | (apply GJ.and; exact rfl; intro hg) | (apply GJ.or; exact rfl; intro hg))
              obtain ⟨bC, hbC⟩ : ∃ z : Nat, z = b := ⟨_, rfl⟩
              subst hbC
              refine must3 (t := [58]) hT2 h5 Take.auto Take.auto Take.auto (fun h6 => ?_)
              generalize mustP (listE l) [58] s5 = s6 at *
              repeat (first | exact endA | refine wkP ?_ | refine opB (fun b => ?_) | refine opA (fun a' c' hc1 hc2 => ?_) | (apply GJ.and; exact rfl; intro hg) | (apply GJ.or; exact rfl; intro hg))
              refine hF.run hM2 hT2 h6 Take.auto Take.auto Take.auto (fun ro3 a3 hl3 h7 => ?_)
              generalize F s6 = kx at *
              obtain ⟨kn, s7⟩ := kx
              dsimp only at h7 i2 hstf ⊢
              repeat (first | exact endA | refine wkP ?_ | refine opB (fun b => ?_) | refine opA (fun a' c' hc1 hc2 => ?_) | (apply GJ.and; exact rfl; intro hg) | (apply GJ.or; exact rfl; intro hg))
              refine must3 (t := [59]) (hT2.up hl3) h7 Take.auto Take.auto Take.auto (fun h8 => ?_)
              generalize mustP (listE l) [59] s7 = s8 at *
              repeat (first | exact endA | refine wkP ?_ | refine opB (fun b => ?_) | refine opA (fun a' c' hc1 hc2 => ?_) | (apply GJ.and; exact rfl; intro hg) | (apply GJ.or; exact rfl; intro hg))
              have e2 : casesV cs ++ flat [Value.agg #[.int .u64 (vn : Int), .int .i64 (kn : Int)]] = casesV (cs ++ [⟨vn, kn⟩]) := by simp [casesV, flat, caseV, Value.cells]
              have e1 : cs.length + 1 = (cs ++ [(⟨vn, kn⟩ : CaseD)]).length := by simp
              rw [e2]
              rw [e1] at hc1 ⊢
              repeat (first | exact endA | refine wkP ?_ | refine opB (fun b => ?_) | refine opA (fun a' c' hc1 hc2 => ?_) | (apply GJ.and; exact rfl; intro hg) | (apply GJ.or; exact rfl; intro hg))
              refine Wk.id ⟨(cs ++ [⟨vn, kn⟩], s8, a3, a', c'), ?_, ?_, Sub.auto, Sup.auto⟩
              all_goals try dsimp only
              · refine ⟨h8, by rw [← e1, show 70 - (cs.length + 1) = 69 - cs.length by omega]; exact i2, ?_, hc1, hc2⟩
                rw [← e1]
                exact .inr ⟨by omega, hstf hcode⟩
              · rw [← e1]; omega
            · rw [if_neg h64] at i2
              have hle : cs.length ≤ 63 := by
                rcases i3 with h | ⟨h, hh⟩
                · omega
                · exact absurd hc hh
              repeat (first | exact endA | refine wkP ?_ | refine opB (fun b => ?_) | refine opA (fun a' c' hc1 hc2 => ?_) | (apply GJ.and; exact rfl; intro hg) | (apply GJ.or; exact rfl; intro hg))
              repeat (first | exact endA | refine wkP ?_ | refine opB (fun b => ?_) | refine opA (fun a' c' hc1 hc2 => ?_) | (apply GJ.and; exact rfl; intro hg) | (apply GJ.or; exact rfl; intro hg))
              have hstf : (s).code ≠ 0 → (mustP (listE l) [59] (F (mustP (listE l) [58] (numP numD (listE l) s).2)).2).code ≠ 0 := fun hh => by
                haveI := sticky_clo l
                exact (InP.must (E := listE l) (I := fun s => s.code ≠ 0) ⟨hst _ (InP.must (E := listE l) (I := fun s => s.code ≠ 0) (InP.num (wideP := numD) ⟨hh⟩) [58]).get⟩ [59]).get
              dsimp only at i2
              refine num3 hT2 i1 Take.auto Take.auto Take.auto (fun h5 => ?_)
              generalize numP numD (listE l) s = v at *
              obtain ⟨vn, s5⟩ := v
              dsimp only at h5 i2 hstf ⊢
              repeat (first | exact endA | refine wkP ?_ | refine opB (fun b => ?_) | refine opA (fun a' c' hc1 hc2 => ?_) | (apply GJ.and; exact rfl; intro hg) | (apply GJ.or; exact rfl; intro hg))
              obtain ⟨bC, hbC⟩ : ∃ z : Nat, z = b := ⟨_, rfl⟩
              subst hbC
              refine must3 (t := [58]) hT2 h5 Take.auto Take.auto Take.auto (fun h6 => ?_)
              generalize mustP (listE l) [58] s5 = s6 at *
              repeat (first | exact endA | refine wkP ?_ | refine opB (fun b => ?_) | refine opA (fun a' c' hc1 hc2 => ?_) | (apply GJ.and; exact rfl; intro hg) | (apply GJ.or; exact rfl; intro hg))
              refine hF.run hM2 hT2 h6 Take.auto Take.auto Take.auto (fun ro3 a3 hl3 h7 => ?_)
              generalize F s6 = kx at *
              obtain ⟨kn, s7⟩ := kx
              dsimp only at h7 i2 hstf ⊢
              repeat (first | exact endA | refine wkP ?_ | refine opB (fun b => ?_) | refine opA (fun a' c' hc1 hc2 => ?_) | (apply GJ.and; exact rfl; intro hg) | (apply GJ.or; exact rfl; intro hg))
              refine must3 (t := [59]) (hT2.up hl3) h7 Take.auto Take.auto Take.auto (fun h8 => ?_)
              generalize mustP (listE l) [59] s7 = s8 at *
              repeat (first | exact endA | refine wkP ?_ | refine opB (fun b => ?_) | refine opA (fun a' c' hc1 hc2 => ?_) | (apply GJ.and; exact rfl; intro hg) | (apply GJ.or; exact rfl; intro hg))
              have e2 : casesV cs ++ flat [Value.agg #[.int .u64 (vn : Int), .int .i64 (kn : Int)]] = casesV (cs ++ [⟨vn, kn⟩]) := by simp [casesV, flat, caseV, Value.cells]
              have e1 : cs.length + 1 = (cs ++ [(⟨vn, kn⟩ : CaseD)]).length := by simp
              rw [e2]
              rw [e1] at hc1 ⊢
              repeat (first | exact endA | refine wkP ?_ | refine opB (fun b => ?_) | refine opA (fun a' c' hc1 hc2 => ?_) | (apply GJ.and; exact rfl; intro hg) | (apply GJ.or; exact rfl; intro hg))
              refine Wk.id ⟨(cs ++ [⟨vn, kn⟩], s8, a3, a', c'), ?_, ?_, Sub.auto, Sup.auto⟩
              all_goals try dsimp only
              · refine ⟨h8, by rw [← e1, show 70 - (cs.length + 1) = 69 - cs.length by omega]; exact i2, ?_, hc1, hc2⟩
                rw [← e1]
                exact .inl (by omega)
              · rw [← e1]; omega
          · rw [if_pos (.inr hk2)] at i2
            subst i2
            dsimp only at hk
            repeat (first | exact endA | refine wkP ?_ | refine opB (fun b => ?_) | refine opA (fun a' c' hc1 hc2 => ?_) | (apply GJ.and; exact rfl; intro hg) | (apply GJ.or; exact rfl; intro hg))
            by_cases h0 : cs.length = 0
            · rw [if_pos h0] at hk
              repeat (first | exact endA | refine wkP ?_ | refine opB (fun b => ?_) | refine opA (fun a' c' hc1 hc2 => ?_) | (apply GJ.and; exact rfl; intro hg) | (apply GJ.or; exact rfl; intro hg))
              refine wrong3 (e := 5) (by decide) (by decide) hT2 i1 Take.auto Take.auto Take.auto (fun h6 => ?_)
              generalize wrongP 5 s = s6 at *
              repeat (first | exact endA | refine wkP ?_ | refine opB (fun b => ?_) | refine opA (fun a' c' hc1 hc2 => ?_) | (apply GJ.and; exact rfl; intro hg) | (apply GJ.or; exact rfl; intro hg))
              refine word3 (t := [101, 108, 115, 101]) hT2 h6 Take.auto Take.auto Take.auto (fun g5 => ?_)
              generalize kwP (listE l) [101, 108, 115, 101] s6 = e at *
              obtain ⟨eb, s7⟩ := e
              dsimp only at g5 hk ⊢
              cases eb with
              | false =>
                simp only [Bool.false_eq_true, ↓reduceIte] at hk
                repeat (first | exact endA | refine wkP ?_ | refine opB (fun b => ?_) | refine opA (fun a' c' hc1 hc2 => ?_) | (apply GJ.and; exact rfl; intro hg) | (apply GJ.or; exact rfl; intro hg))
                refine must3 (t := [125]) (hT2) g5 Take.auto Take.auto Take.auto (fun g1 => ?_)
                generalize mustP (listE l) [125] s7 = z1 at *
                repeat (first | exact endA | refine wkP ?_ | refine opB (fun b => ?_) | refine opA (fun a' c' hc1 hc2 => ?_) | (apply GJ.and; exact rfl; intro hg) | (apply GJ.or; exact rfl; intro hg))
                refine CallOk.freeze (c := .sl ca _ _ _ _ _) Take.auto (fun ro9 hl9 hc9 => ?_)
                refine radd_ok (d := { node0 with kind := 9, reg := xn, mod := vm, cases := cs, els := -1 }) (x := { nodeZ with ca := ca, cc := cc }) ((hT2).up hl9) (g1.up hl9) ⟨Rs.nil _ 1, Rs.nil _ 1, Rs.nil _ 5, Rs.last hc9⟩ ⟨by simp [node0], by simp [node0], by simp [node0], by dsimp only; omega⟩ Take.auto Take.auto Take.auto (fun ro4 a4 hl4 h4 => ?_)
                have hk2 := hk ro4 a4 (((hl2).trans hl9).trans hl4) h4
                repeat (first | exact endA | refine wkP ?_ | refine opB (fun b => ?_) | refine opA (fun a' c' hc1 hc2 => ?_) | (apply GJ.and; exact rfl; intro hg) | (apply GJ.or; exact rfl; intro hg))
                exact Wk.outS Sup.auto (.refl _) hk2
              | true =>
                simp only [↓reduceIte] at hk
                repeat (first | exact endA | refine wkP ?_ | refine opB (fun b => ?_) | refine opA (fun a' c' hc1 hc2 => ?_) | (apply GJ.and; exact rfl; intro hg) | (apply GJ.or; exact rfl; intro hg))
                refine must3 (t := [58]) hT2 g5 Take.auto Take.auto Take.auto (fun g6 => ?_)
                generalize mustP (listE l) [58] s7 = s8 at *
                repeat (first | exact endA | refine wkP ?_ | refine opB (fun b => ?_) | refine opA (fun a' c' hc1 hc2 => ?_) | (apply GJ.and; exact rfl; intro hg) | (apply GJ.or; exact rfl; intro hg))
                refine hF.run hM2 hT2 g6 Take.auto Take.auto Take.auto (fun ro5 a5 hl5 g7 => ?_)
                generalize F s8 = kx at *
                obtain ⟨kn, s9⟩ := kx
                dsimp only at g7 hk ⊢
                repeat (first | exact endA | refine wkP ?_ | refine opB (fun b => ?_) | refine opA (fun a' c' hc1 hc2 => ?_) | (apply GJ.and; exact rfl; intro hg) | (apply GJ.or; exact rfl; intro hg))
                refine must3 (t := [59]) (hT2.up hl5) g7 Take.auto Take.auto Take.auto (fun g8 => ?_)
                generalize mustP (listE l) [59] s9 = sA at *
                repeat (first | exact endA | refine wkP ?_ | refine opB (fun b => ?_) | refine opA (fun a' c' hc1 hc2 => ?_) | (apply GJ.and; exact rfl; intro hg) | (apply GJ.or; exact rfl; intro hg))
                refine must3 (t := [125]) (hT2.up hl5) g8 Take.auto Take.auto Take.auto (fun g1 => ?_)
                generalize mustP (listE l) [125] sA = z1 at *
                repeat (first | exact endA | refine wkP ?_ | refine opB (fun b => ?_) | refine opA (fun a' c' hc1 hc2 => ?_) | (apply GJ.and; exact rfl; intro hg) | (apply GJ.or; exact rfl; intro hg))
                refine CallOk.freeze (c := .sl ca _ _ _ _ _) Take.auto (fun ro9 hl9 hc9 => ?_)
                refine radd_ok (d := { node0 with kind := 9, reg := xn, mod := vm, cases := cs, els := (kn : Int) }) (x := { nodeZ with ca := ca, cc := cc }) ((hT2.up hl5).up hl9) (g1.up hl9) ⟨Rs.nil _ 1, Rs.nil _ 1, Rs.nil _ 5, Rs.last hc9⟩ ⟨by simp [node0], by simp [node0], by simp [node0], by dsimp only; omega⟩ Take.auto Take.auto Take.auto (fun ro4 a4 hl4 h4 => ?_)
                have hk2 := hk ro4 a4 (((hl2.trans hl5).trans hl9).trans hl4) h4
                repeat (first | exact endA | refine wkP ?_ | refine opB (fun b => ?_) | refine opA (fun a' c' hc1 hc2 => ?_) | (apply GJ.and; exact rfl; intro hg) | (apply GJ.or; exact rfl; intro hg))
                exact Wk.outS Sup.auto (.refl _) hk2
            · rw [if_neg h0] at hk
              repeat (first | exact endA | refine wkP ?_ | refine opB (fun b => ?_) | refine opA (fun a' c' hc1 hc2 => ?_) | (apply GJ.and; exact rfl; intro hg) | (apply GJ.or; exact rfl; intro hg))
              refine word3 (t := [101, 108, 115, 101]) hT2 i1 Take.auto Take.auto Take.auto (fun g5 => ?_)
              generalize kwP (listE l) [101, 108, 115, 101] s = e at *
              obtain ⟨eb, s7⟩ := e
              dsimp only at g5 hk ⊢
              cases eb with
              | false =>
                simp only [Bool.false_eq_true, ↓reduceIte] at hk
                repeat (first | exact endA | refine wkP ?_ | refine opB (fun b => ?_) | refine opA (fun a' c' hc1 hc2 => ?_) | (apply GJ.and; exact rfl; intro hg) | (apply GJ.or; exact rfl; intro hg))
                refine must3 (t := [125]) (hT2) g5 Take.auto Take.auto Take.auto (fun g1 => ?_)
                generalize mustP (listE l) [125] s7 = z1 at *
                repeat (first | exact endA | refine wkP ?_ | refine opB (fun b => ?_) | refine opA (fun a' c' hc1 hc2 => ?_) | (apply GJ.and; exact rfl; intro hg) | (apply GJ.or; exact rfl; intro hg))
                refine CallOk.freeze (c := .sl ca _ _ _ _ _) Take.auto (fun ro9 hl9 hc9 => ?_)
                refine radd_ok (d := { node0 with kind := 9, reg := xn, mod := vm, cases := cs, els := -1 }) (x := { nodeZ with ca := ca, cc := cc }) ((hT2).up hl9) (g1.up hl9) ⟨Rs.nil _ 1, Rs.nil _ 1, Rs.nil _ 5, Rs.last hc9⟩ ⟨by simp [node0], by simp [node0], by simp [node0], by dsimp only; omega⟩ Take.auto Take.auto Take.auto (fun ro4 a4 hl4 h4 => ?_)
                have hk2 := hk ro4 a4 (((hl2).trans hl9).trans hl4) h4
                repeat (first | exact endA | refine wkP ?_ | refine opB (fun b => ?_) | refine opA (fun a' c' hc1 hc2 => ?_) | (apply GJ.and; exact rfl; intro hg) | (apply GJ.or; exact rfl; intro hg))
                exact Wk.outS Sup.auto (.refl _) hk2
              | true =>
                simp only [↓reduceIte] at hk
                repeat (first | exact endA | refine wkP ?_ | refine opB (fun b => ?_) | refine opA (fun a' c' hc1 hc2 => ?_) | (apply GJ.and; exact rfl; intro hg) | (apply GJ.or; exact rfl; intro hg))
                refine must3 (t := [58]) hT2 g5 Take.auto Take.auto Take.auto (fun g6 => ?_)
                generalize mustP (listE l) [58] s7 = s8 at *
                repeat (first | exact endA | refine wkP ?_ | refine opB (fun b => ?_) | refine opA (fun a' c' hc1 hc2 => ?_) | (apply GJ.and; exact rfl; intro hg) | (apply GJ.or; exact rfl; intro hg))
                refine hF.run hM2 hT2 g6 Take.auto Take.auto Take.auto (fun ro5 a5 hl5 g7 => ?_)
                generalize F s8 = kx at *
                obtain ⟨kn, s9⟩ := kx
                dsimp only at g7 hk ⊢
                repeat (first | exact endA | refine wkP ?_ | refine opB (fun b => ?_) | refine opA (fun a' c' hc1 hc2 => ?_) | (apply GJ.and; exact rfl; intro hg) | (apply GJ.or; exact rfl; intro hg))
                refine must3 (t := [59]) (hT2.up hl5) g7 Take.auto Take.auto Take.auto (fun g8 => ?_)
                generalize mustP (listE l) [59] s9 = sA at *
                repeat (first | exact endA | refine wkP ?_ | refine opB (fun b => ?_) | refine opA (fun a' c' hc1 hc2 => ?_) | (apply GJ.and; exact rfl; intro hg) | (apply GJ.or; exact rfl; intro hg))
                refine must3 (t := [125]) (hT2.up hl5) g8 Take.auto Take.auto Take.auto (fun g1 => ?_)
                generalize mustP (listE l) [125] sA = z1 at *
                repeat (first | exact endA | refine wkP ?_ | refine opB (fun b => ?_) | refine opA (fun a' c' hc1 hc2 => ?_) | (apply GJ.and; exact rfl; intro hg) | (apply GJ.or; exact rfl; intro hg))
                refine CallOk.freeze (c := .sl ca _ _ _ _ _) Take.auto (fun ro9 hl9 hc9 => ?_)
                refine radd_ok (d := { node0 with kind := 9, reg := xn, mod := vm, cases := cs, els := (kn : Int) }) (x := { nodeZ with ca := ca, cc := cc }) ((hT2.up hl5).up hl9) (g1.up hl9) ⟨Rs.nil _ 1, Rs.nil _ 1, Rs.nil _ 5, Rs.last hc9⟩ ⟨by simp [node0], by simp [node0], by simp [node0], by dsimp only; omega⟩ Take.auto Take.auto Take.auto (fun ro4 a4 hl4 h4 => ?_)
                have hk2 := hk ro4 a4 (((hl2.trans hl5).trans hl9).trans hl4) h4
                repeat (first | exact endA | refine wkP ?_ | refine opB (fun b => ?_) | refine opA (fun a' c' hc1 hc2 => ?_) | (apply GJ.and; exact rfl; intro hg) | (apply GJ.or; exact rfl; intro hg))
                exact Wk.outS Sup.auto (.refl _) hk2
        · rw [if_pos (.inl hc)] at i2
          subst i2
          dsimp only at hk
          rw [decide_eq_false hc]
          repeat (first | exact endA | refine wkP ?_ | refine opB (fun b => ?_) | refine opA (fun a' c' hc1 hc2 => ?_) | (apply GJ.and; exact rfl; intro hg) | (apply GJ.or; exact rfl; intro hg))
          by_cases h0 : cs.length = 0
          · rw [if_pos h0] at hk
            repeat (first | exact endA | refine wkP ?_ | refine opB (fun b => ?_) | refine opA (fun a' c' hc1 hc2 => ?_) | (apply GJ.and; exact rfl; intro hg) | (apply GJ.or; exact rfl; intro hg))
            refine wrong3 (e := 5) (by decide) (by decide) hT2 i1 Take.auto Take.auto Take.auto (fun h6 => ?_)
            generalize wrongP 5 s = s6 at *
            repeat (first | exact endA | refine wkP ?_ | refine opB (fun b => ?_) | refine opA (fun a' c' hc1 hc2 => ?_) | (apply GJ.and; exact rfl; intro hg) | (apply GJ.or; exact rfl; intro hg))
            refine word3 (t := [101, 108, 115, 101]) hT2 h6 Take.auto Take.auto Take.auto (fun g5 => ?_)
            generalize kwP (listE l) [101, 108, 115, 101] s6 = e at *
            obtain ⟨eb, s7⟩ := e
            dsimp only at g5 hk ⊢
            cases eb with
            | false =>
              simp only [Bool.false_eq_true, ↓reduceIte] at hk
              repeat (first | exact endA | refine wkP ?_ | refine opB (fun b => ?_) | refine opA (fun a' c' hc1 hc2 => ?_) | (apply GJ.and; exact rfl; intro hg) | (apply GJ.or; exact rfl; intro hg))
              refine must3 (t := [125]) (hT2) g5 Take.auto Take.auto Take.auto (fun g1 => ?_)
              generalize mustP (listE l) [125] s7 = z1 at *
              repeat (first | exact endA | refine wkP ?_ | refine opB (fun b => ?_) | refine opA (fun a' c' hc1 hc2 => ?_) | (apply GJ.and; exact rfl; intro hg) | (apply GJ.or; exact rfl; intro hg))
              refine CallOk.freeze (c := .sl ca _ _ _ _ _) Take.auto (fun ro9 hl9 hc9 => ?_)
              refine radd_ok (d := { node0 with kind := 9, reg := xn, mod := vm, cases := cs, els := -1 }) (x := { nodeZ with ca := ca, cc := cc }) ((hT2).up hl9) (g1.up hl9) ⟨Rs.nil _ 1, Rs.nil _ 1, Rs.nil _ 5, Rs.last hc9⟩ ⟨by simp [node0], by simp [node0], by simp [node0], by dsimp only; omega⟩ Take.auto Take.auto Take.auto (fun ro4 a4 hl4 h4 => ?_)
              have hk2 := hk ro4 a4 (((hl2).trans hl9).trans hl4) h4
              repeat (first | exact endA | refine wkP ?_ | refine opB (fun b => ?_) | refine opA (fun a' c' hc1 hc2 => ?_) | (apply GJ.and; exact rfl; intro hg) | (apply GJ.or; exact rfl; intro hg))
              exact Wk.outS Sup.auto (.refl _) hk2
            | true =>
              simp only [↓reduceIte] at hk
              repeat (first | exact endA | refine wkP ?_ | refine opB (fun b => ?_) | refine opA (fun a' c' hc1 hc2 => ?_) | (apply GJ.and; exact rfl; intro hg) | (apply GJ.or; exact rfl; intro hg))
              refine must3 (t := [58]) hT2 g5 Take.auto Take.auto Take.auto (fun g6 => ?_)
              generalize mustP (listE l) [58] s7 = s8 at *
              repeat (first | exact endA | refine wkP ?_ | refine opB (fun b => ?_) | refine opA (fun a' c' hc1 hc2 => ?_) | (apply GJ.and; exact rfl; intro hg) | (apply GJ.or; exact rfl; intro hg))
              refine hF.run hM2 hT2 g6 Take.auto Take.auto Take.auto (fun ro5 a5 hl5 g7 => ?_)
              generalize F s8 = kx at *
              obtain ⟨kn, s9⟩ := kx
              dsimp only at g7 hk ⊢
              repeat (first | exact endA | refine wkP ?_ | refine opB (fun b => ?_) | refine opA (fun a' c' hc1 hc2 => ?_) | (apply GJ.and; exact rfl; intro hg) | (apply GJ.or; exact rfl; intro hg))
              refine must3 (t := [59]) (hT2.up hl5) g7 Take.auto Take.auto Take.auto (fun g8 => ?_)
              generalize mustP (listE l) [59] s9 = sA at *
              repeat (first | exact endA | refine wkP ?_ | refine opB (fun b => ?_) | refine opA (fun a' c' hc1 hc2 => ?_) | (apply GJ.and; exact rfl; intro hg) | (apply GJ.or; exact rfl; intro hg))
              refine must3 (t := [125]) (hT2.up hl5) g8 Take.auto Take.auto Take.auto (fun g1 => ?_)
              generalize mustP (listE l) [125] sA = z1 at *
              repeat (first | exact endA | refine wkP ?_ | refine opB (fun b => ?_) | refine opA (fun a' c' hc1 hc2 => ?_) | (apply GJ.and; exact rfl; intro hg) | (apply GJ.or; exact rfl; intro hg))
              refine CallOk.freeze (c := .sl ca _ _ _ _ _) Take.auto (fun ro9 hl9 hc9 => ?_)
              refine radd_ok (d := { node0 with kind := 9, reg := xn, mod := vm, cases := cs, els := (kn : Int) }) (x := { nodeZ with ca := ca, cc := cc }) ((hT2.up hl5).up hl9) (g1.up hl9) ⟨Rs.nil _ 1, Rs.nil _ 1, Rs.nil _ 5, Rs.last hc9⟩ ⟨by simp [node0], by simp [node0], by simp [node0], by dsimp only; omega⟩ Take.auto Take.auto Take.auto (fun ro4 a4 hl4 h4 => ?_)
              have hk2 := hk ro4 a4 (((hl2.trans hl5).trans hl9).trans hl4) h4
              repeat (first | exact endA | refine wkP ?_ | refine opB (fun b => ?_) | refine opA (fun a' c' hc1 hc2 => ?_) | (apply GJ.and; exact rfl; intro hg) | (apply GJ.or; exact rfl; intro hg))
              exact Wk.outS Sup.auto (.refl _) hk2
          · rw [if_neg h0] at hk
            repeat (first | exact endA | refine wkP ?_ | refine opB (fun b => ?_) | refine opA (fun a' c' hc1 hc2 => ?_) | (apply GJ.and; exact rfl; intro hg) | (apply GJ.or; exact rfl; intro hg))
            refine word3 (t := [101, 108, 115, 101]) hT2 i1 Take.auto Take.auto Take.auto (fun g5 => ?_)
            generalize kwP (listE l) [101, 108, 115, 101] s = e at *
            obtain ⟨eb, s7⟩ := e
            dsimp only at g5 hk ⊢
            cases eb with
            | false =>
              simp only [Bool.false_eq_true, ↓reduceIte] at hk
              repeat (first | exact endA | refine wkP ?_ | refine opB (fun b => ?_) | refine opA (fun a' c' hc1 hc2 => ?_) | (apply GJ.and; exact rfl; intro hg) | (apply GJ.or; exact rfl; intro hg))
              refine must3 (t := [125]) (hT2) g5 Take.auto Take.auto Take.auto (fun g1 => ?_)
              generalize mustP (listE l) [125] s7 = z1 at *
              repeat (first | exact endA | refine wkP ?_ | refine opB (fun b => ?_) | refine opA (fun a' c' hc1 hc2 => ?_) | (apply GJ.and; exact rfl; intro hg) | (apply GJ.or; exact rfl; intro hg))
              refine CallOk.freeze (c := .sl ca _ _ _ _ _) Take.auto (fun ro9 hl9 hc9 => ?_)
              refine radd_ok (d := { node0 with kind := 9, reg := xn, mod := vm, cases := cs, els := -1 }) (x := { nodeZ with ca := ca, cc := cc }) ((hT2).up hl9) (g1.up hl9) ⟨Rs.nil _ 1, Rs.nil _ 1, Rs.nil _ 5, Rs.last hc9⟩ ⟨by simp [node0], by simp [node0], by simp [node0], by dsimp only; omega⟩ Take.auto Take.auto Take.auto (fun ro4 a4 hl4 h4 => ?_)
              have hk2 := hk ro4 a4 (((hl2).trans hl9).trans hl4) h4
              repeat (first | exact endA | refine wkP ?_ | refine opB (fun b => ?_) | refine opA (fun a' c' hc1 hc2 => ?_) | (apply GJ.and; exact rfl; intro hg) | (apply GJ.or; exact rfl; intro hg))
              exact Wk.outS Sup.auto (.refl _) hk2
            | true =>
              simp only [↓reduceIte] at hk
              repeat (first | exact endA | refine wkP ?_ | refine opB (fun b => ?_) | refine opA (fun a' c' hc1 hc2 => ?_) | (apply GJ.and; exact rfl; intro hg) | (apply GJ.or; exact rfl; intro hg))
              refine must3 (t := [58]) hT2 g5 Take.auto Take.auto Take.auto (fun g6 => ?_)
              generalize mustP (listE l) [58] s7 = s8 at *
              repeat (first | exact endA | refine wkP ?_ | refine opB (fun b => ?_) | refine opA (fun a' c' hc1 hc2 => ?_) | (apply GJ.and; exact rfl; intro hg) | (apply GJ.or; exact rfl; intro hg))
              refine hF.run hM2 hT2 g6 Take.auto Take.auto Take.auto (fun ro5 a5 hl5 g7 => ?_)
              generalize F s8 = kx at *
              obtain ⟨kn, s9⟩ := kx
              dsimp only at g7 hk ⊢
              repeat (first | exact endA | refine wkP ?_ | refine opB (fun b => ?_) | refine opA (fun a' c' hc1 hc2 => ?_) | (apply GJ.and; exact rfl; intro hg) | (apply GJ.or; exact rfl; intro hg))
              refine must3 (t := [59]) (hT2.up hl5) g7 Take.auto Take.auto Take.auto (fun g8 => ?_)
              generalize mustP (listE l) [59] s9 = sA at *
              repeat (first | exact endA | refine wkP ?_ | refine opB (fun b => ?_) | refine opA (fun a' c' hc1 hc2 => ?_) | (apply GJ.and; exact rfl; intro hg) | (apply GJ.or; exact rfl; intro hg))
              refine must3 (t := [125]) (hT2.up hl5) g8 Take.auto Take.auto Take.auto (fun g1 => ?_)
              generalize mustP (listE l) [125] sA = z1 at *
              repeat (first | exact endA | refine wkP ?_ | refine opB (fun b => ?_) | refine opA (fun a' c' hc1 hc2 => ?_) | (apply GJ.and; exact rfl; intro hg) | (apply GJ.or; exact rfl; intro hg))
              refine CallOk.freeze (c := .sl ca _ _ _ _ _) Take.auto (fun ro9 hl9 hc9 => ?_)
              refine radd_ok (d := { node0 with kind := 9, reg := xn, mod := vm, cases := cs, els := (kn : Int) }) (x := { nodeZ with ca := ca, cc := cc }) ((hT2.up hl5).up hl9) (g1.up hl9) ⟨Rs.nil _ 1, Rs.nil _ 1, Rs.nil _ 5, Rs.last hc9⟩ ⟨by simp [node0], by simp [node0], by simp [node0], by dsimp only; omega⟩ Take.auto Take.auto Take.auto (fun ro4 a4 hl4 h4 => ?_)
              have hk2 := hk ro4 a4 (((hl2.trans hl5).trans hl9).trans hl4) h4
              repeat (first | exact endA | refine wkP ?_ | refine opB (fun b => ?_) | refine opA (fun a' c' hc1 hc2 => ?_) | (apply GJ.and; exact rfl; intro hg) | (apply GJ.or; exact rfl; intro hg))
              exact Wk.outS Sup.auto (.refl _) hk2
    · rw [if_neg (fun h => hc3 h.1)] at hS
      subst hS
      rw [decide_eq_false hc3]
      repeat (first | exact endA | refine wkP ?_ | refine opB (fun b => ?_) | refine opA (fun a' c' hc1 hc2 => ?_) | (apply GJ.and; exact rfl; intro hg) | (apply GJ.or; exact rfl; intro hg))
      refine must3 (t := [123]) hT h3 Take.auto Take.auto Take.auto (fun h4 => ?_)
      generalize mustP (listE l) [123] s3 = sM at *
      obtain ⟨R, hR⟩ : ∃ R, R = casesP numD (listE l) F 70 [] sM := ⟨_, rfl⟩
      rw [← hR] at hk
      repeat (first | exact endA | refine wkP ?_ | refine opB (fun b => ?_) | refine opA (fun a' c' hc1 hc2 => ?_) | (apply GJ.and; exact rfl; intro hg) | (apply GJ.or; exact rfl; intro hg))
      refine LoopOk.auto (ι := List CaseD × PS × SpecA × Option Addr × Nat) Keep.auto (fun (cs, s, a, ca, cc) => []) (fun (cs, s, a, ca, cc) => rdC r la lc l s a :: ndC s a :: dfC s a :: .sl ca cs.length cc 97 2 (casesV cs) :: .blk bN 40 (nodeV { node0 with kind := 9, reg := xn, mod := vm, cases := cs, els := -1 } { nodeZ with ca := ca, cc := cc }) :: q) (fun (cs, s, a, ca, cc) ro2 => RdOk ro2 l s a ∧ casesP numD (listE l) F (70 - cs.length) cs s = R ∧ (cs.length ≤ 64 ∨ (cs.length = 65 ∧ s.code ≠ 0)) ∧ cs.length ≤ cc ∧ cc ≤ maxLen) (fun (cs, s, a, ca, cc) => 70 - cs.length) ([], sM, a, none, 0) ?_ Sub.auto Sup.auto ?_
      · exact ⟨h4, hR.symm, .inl (Nat.zero_le _), Nat.le_refl _, Nat.zero_le _⟩
      clear h4 hR h h1 h2
      rintro ⟨cs, s, a, ca, cc⟩ ro2 hl2 ⟨i1, i2, i3, i4, i5⟩
      dsimp only [List.cons_append, List.nil_append] at i1 i2 i3 i4 i5 ⊢
      dsimp only [nodeV, node0, nodeZ]
      have hM2 := hM.le hl2
      have hT2 := hT.up hl2
      have hfl := casesV_len' cs
      rw [show 70 - cs.length = (69 - cs.length) + 1 by omega, casesP] at i2
      repeat (first | exact endA | refine wkP ?_ | refine opB (fun b => ?_) | refine opA (fun a' c' hc1 hc2 => ?_) | (apply GJ.and; exact rfl; intro hg) | (apply GJ.or; exact rfl; intro hg))
      refine rok_ok i1 Take.auto ?_
      by_cases hc : s.code = 0
      · rw [decide_eq_true hc]
        repeat (first | exact endA | refine wkP ?_ | refine opB (fun b => ?_) | refine opA (fun a' c' hc1 hc2 => ?_) | (apply GJ.and; exact rfl; intro hg) | (apply GJ.or; exact rfl; intro hg))
        refine rpeek_ok hT2 i1 Take.auto ?_
        repeat (first | exact endA | refine wkP ?_ | refine opB (fun b => ?_) | refine opA (fun a' c' hc1 hc2 => ?_) | (apply GJ.and; exact rfl; intro hg) | (apply GJ.or; exact rfl; intro hg))
        by_cases hk2 : (peekP (listE l) s).kind = 2
        · rw [if_neg (by rintro (h | h); exact h hc; exact h hk2)] at i2
          rw [hk2]
          repeat (first | exact endA | refine wkP ?_ | refine opB (fun b => ?_) | refine opA (fun a' c' hc1 hc2 => ?_) | (apply GJ.and; exact rfl; intro hg) | (apply GJ.or; exact rfl; intro hg))
          by_cases h64 : cs.length = 64
          · rw [if_pos h64] at i2
            repeat (first | exact endA | refine wkP ?_ | refine opB (fun b => ?_) | refine opA (fun a' c' hc1 hc2 => ?_) | (apply GJ.and; exact rfl; intro hg) | (apply GJ.or; exact rfl; intro hg))
            refine wrong3 (e := 2) (by decide) (by decide) hT2 i1 Take.auto Take.auto Take.auto (fun h4 => ?_)
            have hcode : (wrongP 2 s).code ≠ 0 := by
              unfold wrongP
              rw [if_pos hc]
              exact (by decide : (2 : Nat) ≠ 0)
            generalize wrongP 2 s = s4 at *
            repeat (first | exact endA | refine wkP ?_ | refine opB (fun b => ?_) | refine opA (fun a' c' hc1 hc2 => ?_) | (apply GJ.and; exact rfl; intro hg) | (apply GJ.or; exact rfl; intro hg))
            have hstf : (s4).code ≠ 0 → (mustP (listE l) [59] (F (mustP (listE l) [58] (numP numD (listE l) s4).2)).2).code ≠ 0 := fun hh => by
              haveI := sticky_clo l
              exact (InP.must (E := listE l) (I := fun s => s.code ≠ 0) ⟨hst _ (InP.must (E := listE l) (I := fun s => s.code ≠ 0) (InP.num (wideP := numD) ⟨hh⟩) [58]).get⟩ [59]).get
            dsimp only at i2
            refine num3 hT2 h4 Take.auto Take.auto Take.auto (fun h5 => ?_)
            generalize numP numD (listE l) s4 = v at *
            obtain ⟨vn, s5⟩ := v
            dsimp only at h5 i2 hstf ⊢
            repeat (first | exact endA | refine wkP ?_ | refine opB (fun b => ?_) | refine opA (fun a' c' hc1 hc2 => ?_) | (apply GJ.and; exact rfl; intro hg) | (apply GJ.or; exact rfl; intro hg))
            obtain ⟨bC, hbC⟩ : ∃ z : Nat, z = b := ⟨_, rfl⟩
            subst hbC
            refine must3 (t := [58]) hT2 h5 Take.auto Take.auto Take.auto (fun h6 => ?_)
            generalize mustP (listE l) [58] s5 = s6 at *
            repeat (first | exact endA | refine wkP ?_ | refine opB (fun b => ?_) | refine opA (fun a' c' hc1 hc2 => ?_) | (apply GJ.and; exact rfl; intro hg) | (apply GJ.or; exact rfl; intro hg))
            refine hF.run hM2 hT2 h6 Take.auto Take.auto Take.auto (fun ro3 a3 hl3 h7 => ?_)
            generalize F s6 = kx at *
            obtain ⟨kn, s7⟩ := kx
            dsimp only at h7 i2 hstf ⊢
            repeat (first | exact endA | refine wkP ?_ | refine opB (fun b => ?_) | refine opA (fun a' c' hc1 hc2 => ?_) | (apply GJ.and; exact rfl; intro hg) | (apply GJ.or; exact rfl; intro hg))
            refine must3 (t := [59]) (hT2.up hl3) h7 Take.auto Take.auto Take.auto (fun h8 => ?_)
            generalize mustP (listE l) [59] s7 = s8 at *
            repeat (first | exact endA | refine wkP ?_ | refine opB (fun b => ?_) | refine opA (fun a' c' hc1 hc2 => ?_) | (apply GJ.and; exact rfl; intro hg) | (apply GJ.or; exact rfl; intro hg))
            have e2 : casesV cs ++ flat [Value.agg #[.int .u64 (vn : Int), .int .i64 (kn : Int)]] = casesV (cs ++ [⟨vn, kn⟩]) := by simp [casesV, flat, caseV, Value.cells]
            have e1 : cs.length + 1 = (cs ++ [(⟨vn, kn⟩ : CaseD)]).length := by simp
            rw [e2]
            rw [e1] at hc1 ⊢
            repeat (first | exact endA | refine wkP ?_ | refine opB (fun b => ?_) | refine opA (fun a' c' hc1 hc2 => ?_) | (apply GJ.and; exact rfl; intro hg) | (apply GJ.or; exact rfl; intro hg))
            refine Wk.id ⟨(cs ++ [⟨vn, kn⟩], s8, a3, a', c'), ?_, ?_, Sub.auto, Sup.auto⟩
            all_goals try dsimp only
            · refine ⟨h8, by rw [← e1, show 70 - (cs.length + 1) = 69 - cs.length by omega]; exact i2, ?_, hc1, hc2⟩
              rw [← e1]
              exact .inr ⟨by omega, hstf hcode⟩
            · rw [← e1]; omega
          · rw [if_neg h64] at i2
            have hle : cs.length ≤ 63 := by
              rcases i3 with h | ⟨h, hh⟩
              · omega
              · exact absurd hc hh
            repeat (first | exact endA | refine wkP ?_ | refine opB (fun b => ?_) | refine opA (fun a' c' hc1 hc2 => ?_) | (apply GJ.and; exact rfl; intro hg) | (apply GJ.or; exact rfl; intro hg))
            repeat (first | exact endA | refine wkP ?_ | refine opB (fun b => ?_) | refine opA (fun a' c' hc1 hc2 => ?_) | (apply GJ.and; exact rfl; intro hg) | (apply GJ.or; exact rfl; intro hg))
            have hstf : (s).code ≠ 0 → (mustP (listE l) [59] (F (mustP (listE l) [58] (numP numD (listE l) s).2)).2).code ≠ 0 := fun hh => by
              haveI := sticky_clo l
              exact (InP.must (E := listE l) (I := fun s => s.code ≠ 0) ⟨hst _ (InP.must (E := listE l) (I := fun s => s.code ≠ 0) (InP.num (wideP := numD) ⟨hh⟩) [58]).get⟩ [59]).get
            dsimp only at i2
            refine num3 hT2 i1 Take.auto Take.auto Take.auto (fun h5 => ?_)
            generalize numP numD (listE l) s = v at *
            obtain ⟨vn, s5⟩ := v
            dsimp only at h5 i2 hstf ⊢
            repeat (first | exact endA | refine wkP ?_ | refine opB (fun b => ?_) | refine opA (fun a' c' hc1 hc2 => ?_) | (apply GJ.and; exact rfl; intro hg) | (apply GJ.or; exact rfl; intro hg))
            obtain ⟨bC, hbC⟩ : ∃ z : Nat, z = b := ⟨_, rfl⟩
            subst hbC
            refine must3 (t := [58]) hT2 h5 Take.auto Take.auto Take.auto (fun h6 => ?_)
            generalize mustP (listE l) [58] s5 = s6 at *
            repeat (first | exact endA | refine wkP ?_ | refine opB (fun b => ?_) | refine opA (fun a' c' hc1 hc2 => ?_) | (apply GJ.and; exact rfl; intro hg) | (apply GJ.or; exact rfl; intro hg))
            refine hF.run hM2 hT2 h6 Take.auto Take.auto Take.auto (fun ro3 a3 hl3 h7 => ?_)
            generalize F s6 = kx at *
            obtain ⟨kn, s7⟩ := kx
            dsimp only at h7 i2 hstf ⊢
            repeat (first | exact endA | refine wkP ?_ | refine opB (fun b => ?_) | refine opA (fun a' c' hc1 hc2 => ?_) | (apply GJ.and; exact rfl; intro hg) | (apply GJ.or; exact rfl; intro hg))
            refine must3 (t := [59]) (hT2.up hl3) h7 Take.auto Take.auto Take.auto (fun h8 => ?_)
            generalize mustP (listE l) [59] s7 = s8 at *
            repeat (first | exact endA | refine wkP ?_ | refine opB (fun b => ?_) | refine opA (fun a' c' hc1 hc2 => ?_) | (apply GJ.and; exact rfl; intro hg) | (apply GJ.or; exact rfl; intro hg))
            have e2 : casesV cs ++ flat [Value.agg #[.int .u64 (vn : Int), .int .i64 (kn : Int)]] = casesV (cs ++ [⟨vn, kn⟩]) := by simp [casesV, flat, caseV, Value.cells]
            have e1 : cs.length + 1 = (cs ++ [(⟨vn, kn⟩ : CaseD)]).length := by simp
            rw [e2]
            rw [e1] at hc1 ⊢
            repeat (first | exact endA | refine wkP ?_ | refine opB (fun b => ?_) | refine opA (fun a' c' hc1 hc2 => ?_) | (apply GJ.and; exact rfl; intro hg) | (apply GJ.or; exact rfl; intro hg))
            refine Wk.id ⟨(cs ++ [⟨vn, kn⟩], s8, a3, a', c'), ?_, ?_, Sub.auto, Sup.auto⟩
            all_goals try dsimp only
            · refine ⟨h8, by rw [← e1, show 70 - (cs.length + 1) = 69 - cs.length by omega]; exact i2, ?_, hc1, hc2⟩
              rw [← e1]
              exact .inl (by omega)
            · rw [← e1]; omega
        · rw [if_pos (.inr hk2)] at i2
          subst i2
          dsimp only at hk
          repeat (first | exact endA | refine wkP ?_ | refine opB (fun b => ?_) | refine opA (fun a' c' hc1 hc2 => ?_) | (apply GJ.and; exact rfl; intro hg) | (apply GJ.or; exact rfl; intro hg))
          by_cases h0 : cs.length = 0
          · rw [if_pos h0] at hk
            repeat (first | exact endA | refine wkP ?_ | refine opB (fun b => ?_) | refine opA (fun a' c' hc1 hc2 => ?_) | (apply GJ.and; exact rfl; intro hg) | (apply GJ.or; exact rfl; intro hg))
            refine wrong3 (e := 5) (by decide) (by decide) hT2 i1 Take.auto Take.auto Take.auto (fun h6 => ?_)
            generalize wrongP 5 s = s6 at *
            repeat (first | exact endA | refine wkP ?_ | refine opB (fun b => ?_) | refine opA (fun a' c' hc1 hc2 => ?_) | (apply GJ.and; exact rfl; intro hg) | (apply GJ.or; exact rfl; intro hg))
            refine word3 (t := [101, 108, 115, 101]) hT2 h6 Take.auto Take.auto Take.auto (fun g5 => ?_)
            generalize kwP (listE l) [101, 108, 115, 101] s6 = e at *
            obtain ⟨eb, s7⟩ := e
            dsimp only at g5 hk ⊢
            cases eb with
            | false =>
              simp only [Bool.false_eq_true, ↓reduceIte] at hk
              repeat (first | exact endA | refine wkP ?_ | refine opB (fun b => ?_) | refine opA (fun a' c' hc1 hc2 => ?_) | (apply GJ.and; exact rfl; intro hg) | (apply GJ.or; exact rfl; intro hg))
              refine must3 (t := [125]) (hT2) g5 Take.auto Take.auto Take.auto (fun g1 => ?_)
              generalize mustP (listE l) [125] s7 = z1 at *
              repeat (first | exact endA | refine wkP ?_ | refine opB (fun b => ?_) | refine opA (fun a' c' hc1 hc2 => ?_) | (apply GJ.and; exact rfl; intro hg) | (apply GJ.or; exact rfl; intro hg))
              refine CallOk.freeze (c := .sl ca _ _ _ _ _) Take.auto (fun ro9 hl9 hc9 => ?_)
              refine radd_ok (d := { node0 with kind := 9, reg := xn, mod := vm, cases := cs, els := -1 }) (x := { nodeZ with ca := ca, cc := cc }) ((hT2).up hl9) (g1.up hl9) ⟨Rs.nil _ 1, Rs.nil _ 1, Rs.nil _ 5, Rs.last hc9⟩ ⟨by simp [node0], by simp [node0], by simp [node0], by dsimp only; omega⟩ Take.auto Take.auto Take.auto (fun ro4 a4 hl4 h4 => ?_)
              have hk2 := hk ro4 a4 (((hl2).trans hl9).trans hl4) h4
              repeat (first | exact endA | refine wkP ?_ | refine opB (fun b => ?_) | refine opA (fun a' c' hc1 hc2 => ?_) | (apply GJ.and; exact rfl; intro hg) | (apply GJ.or; exact rfl; intro hg))
              exact Wk.outS Sup.auto (.refl _) hk2
            | true =>
              simp only [↓reduceIte] at hk
              repeat (first | exact endA | refine wkP ?_ | refine opB (fun b => ?_) | refine opA (fun a' c' hc1 hc2 => ?_) | (apply GJ.and; exact rfl; intro hg) | (apply GJ.or; exact rfl; intro hg))
              refine must3 (t := [58]) hT2 g5 Take.auto Take.auto Take.auto (fun g6 => ?_)
              generalize mustP (listE l) [58] s7 = s8 at *
              repeat (first | exact endA | refine wkP ?_ | refine opB (fun b => ?_) | refine opA (fun a' c' hc1 hc2 => ?_) | (apply GJ.and; exact rfl; intro hg) | (apply GJ.or; exact rfl; intro hg))
              refine hF.run hM2 hT2 g6 Take.auto Take.auto Take.auto (fun ro5 a5 hl5 g7 => ?_)
              generalize F s8 = kx at *
              obtain ⟨kn, s9⟩ := kx
              dsimp only at g7 hk ⊢
              repeat (first | exact endA | refine wkP ?_ | refine opB (fun b => ?_) | refine opA (fun a' c' hc1 hc2 => ?_) | (apply GJ.and; exact rfl; intro hg) | (apply GJ.or; exact rfl; intro hg))
              refine must3 (t := [59]) (hT2.up hl5) g7 Take.auto Take.auto Take.auto (fun g8 => ?_)
              generalize mustP (listE l) [59] s9 = sA at *
              repeat (first | exact endA | refine wkP ?_ | refine opB (fun b => ?_) | refine opA (fun a' c' hc1 hc2 => ?_) | (apply GJ.and; exact rfl; intro hg) | (apply GJ.or; exact rfl; intro hg))
              refine must3 (t := [125]) (hT2.up hl5) g8 Take.auto Take.auto Take.auto (fun g1 => ?_)
              generalize mustP (listE l) [125] sA = z1 at *
              repeat (first | exact endA | refine wkP ?_ | refine opB (fun b => ?_) | refine opA (fun a' c' hc1 hc2 => ?_) | (apply GJ.and; exact rfl; intro hg) | (apply GJ.or; exact rfl; intro hg))
              refine CallOk.freeze (c := .sl ca _ _ _ _ _) Take.auto (fun ro9 hl9 hc9 => ?_)
              refine radd_ok (d := { node0 with kind := 9, reg := xn, mod := vm, cases := cs, els := (kn : Int) }) (x := { nodeZ with ca := ca, cc := cc }) ((hT2.up hl5).up hl9) (g1.up hl9) ⟨Rs.nil _ 1, Rs.nil _ 1, Rs.nil _ 5, Rs.last hc9⟩ ⟨by simp [node0], by simp [node0], by simp [node0], by dsimp only; omega⟩ Take.auto Take.auto Take.auto (fun ro4 a4 hl4 h4 => ?_)
              have hk2 := hk ro4 a4 (((hl2.trans hl5).trans hl9).trans hl4) h4
              repeat (first | exact endA | refine wkP ?_ | refine opB (fun b => ?_) | refine opA (fun a' c' hc1 hc2 => ?_) | (apply GJ.and; exact rfl; intro hg) | (apply GJ.or; exact rfl; intro hg))
              exact Wk.outS Sup.auto (.refl _) hk2
          · rw [if_neg h0] at hk
            repeat (first | exact endA | refine wkP ?_ | refine opB (fun b => ?_) | refine opA (fun a' c' hc1 hc2 => ?_) | (apply GJ.and; exact rfl; intro hg) | (apply GJ.or; exact rfl; intro hg))
            refine word3 (t := [101, 108, 115, 101]) hT2 i1 Take.auto Take.auto Take.auto (fun g5 => ?_)
            generalize kwP (listE l) [101, 108, 115, 101] s = e at *
            obtain ⟨eb, s7⟩ := e
            dsimp only at g5 hk ⊢
            cases eb with
            | false =>
              simp only [Bool.false_eq_true, ↓reduceIte] at hk
              repeat (first | exact endA | refine wkP ?_ | refine opB (fun b => ?_) | refine opA (fun a' c' hc1 hc2 => ?_) | (apply GJ.and; exact rfl; intro hg) | (apply GJ.or; exact rfl; intro hg))
              refine must3 (t := [125]) (hT2) g5 Take.auto Take.auto Take.auto (fun g1 => ?_)
              generalize mustP (listE l) [125] s7 = z1 at *
              repeat (first | exact endA | refine wkP ?_ | refine opB (fun b => ?_) | refine opA (fun a' c' hc1 hc2 => ?_) | (apply GJ.and; exact rfl; intro hg) | (apply GJ.or; exact rfl; intro hg))
              refine CallOk.freeze (c := .sl ca _ _ _ _ _) Take.auto (fun ro9 hl9 hc9 => ?_)
              refine radd_ok (d := { node0 with kind := 9, reg := xn, mod := vm, cases := cs, els := -1 }) (x := { nodeZ with ca := ca, cc := cc }) ((hT2).up hl9) (g1.up hl9) ⟨Rs.nil _ 1, Rs.nil _ 1, Rs.nil _ 5, Rs.last hc9⟩ ⟨by simp [node0], by simp [node0], by simp [node0], by dsimp only; omega⟩ Take.auto Take.auto Take.auto (fun ro4 a4 hl4 h4 => ?_)
              have hk2 := hk ro4 a4 (((hl2).trans hl9).trans hl4) h4
              repeat (first | exact endA | refine wkP ?_ | refine opB (fun b => ?_) | refine opA (fun a' c' hc1 hc2 => ?_) | (apply GJ.and; exact rfl; intro hg) | (apply GJ.or; exact rfl; intro hg))
              exact Wk.outS Sup.auto (.refl _) hk2
            | true =>
              simp only [↓reduceIte] at hk
              repeat (first | exact endA | refine wkP ?_ | refine opB (fun b => ?_) | refine opA (fun a' c' hc1 hc2 => ?_) | (apply GJ.and; exact rfl; intro hg) | (apply GJ.or; exact rfl; intro hg))
              refine must3 (t := [58]) hT2 g5 Take.auto Take.auto Take.auto (fun g6 => ?_)
              generalize mustP (listE l) [58] s7 = s8 at *
              repeat (first | exact endA | refine wkP ?_ | refine opB (fun b => ?_) | refine opA (fun a' c' hc1 hc2 => ?_) | (apply GJ.and; exact rfl; intro hg) | (apply GJ.or; exact rfl; intro hg))
              refine hF.run hM2 hT2 g6 Take.auto Take.auto Take.auto (fun ro5 a5 hl5 g7 => ?_)
              generalize F s8 = kx at *
              obtain ⟨kn, s9⟩ := kx
              dsimp only at g7 hk ⊢
              repeat (first | exact endA | refine wkP ?_ | refine opB (fun b => ?_) | refine opA (fun a' c' hc1 hc2 => ?_) | (apply GJ.and; exact rfl; intro hg) | (apply GJ.or; exact rfl; intro hg))
              refine must3 (t := [59]) (hT2.up hl5) g7 Take.auto Take.auto Take.auto (fun g8 => ?_)
              generalize mustP (listE l) [59] s9 = sA at *
              repeat (first | exact endA | refine wkP ?_ | refine opB (fun b => ?_) | refine opA (fun a' c' hc1 hc2 => ?_) | (apply GJ.and; exact rfl; intro hg) | (apply GJ.or; exact rfl; intro hg))
              refine must3 (t := [125]) (hT2.up hl5) g8 Take.auto Take.auto Take.auto (fun g1 => ?_)
              generalize mustP (listE l) [125] sA = z1 at *
              repeat (first | exact endA | refine wkP ?_ | refine opB (fun b => ?_) | refine opA (fun a' c' hc1 hc2 => ?_) | (apply GJ.and; exact rfl; intro hg) | (apply GJ.or; exact rfl; intro hg))
              refine CallOk.freeze (c := .sl ca _ _ _ _ _) Take.auto (fun ro9 hl9 hc9 => ?_)
              refine radd_ok (d := { node0 with kind := 9, reg := xn, mod := vm, cases := cs, els := (kn : Int) }) (x := { nodeZ with ca := ca, cc := cc }) ((hT2.up hl5).up hl9) (g1.up hl9) ⟨Rs.nil _ 1, Rs.nil _ 1, Rs.nil _ 5, Rs.last hc9⟩ ⟨by simp [node0], by simp [node0], by simp [node0], by dsimp only; omega⟩ Take.auto Take.auto Take.auto (fun ro4 a4 hl4 h4 => ?_)
              have hk2 := hk ro4 a4 (((hl2.trans hl5).trans hl9).trans hl4) h4
              repeat (first | exact endA | refine wkP ?_ | refine opB (fun b => ?_) | refine opA (fun a' c' hc1 hc2 => ?_) | (apply GJ.and; exact rfl; intro hg) | (apply GJ.or; exact rfl; intro hg))
              exact Wk.outS Sup.auto (.refl _) hk2
      · rw [if_pos (.inl hc)] at i2
        subst i2
        dsimp only at hk
        rw [decide_eq_false hc]
        repeat (first | exact endA | refine wkP ?_ | refine opB (fun b => ?_) | refine opA (fun a' c' hc1 hc2 => ?_) | (apply GJ.and; exact rfl; intro hg) | (apply GJ.or; exact rfl; intro hg))
        by_cases h0 : cs.length = 0
        · rw [if_pos h0] at hk
          repeat (first | exact endA | refine wkP ?_ | refine opB (fun b => ?_) | refine opA (fun a' c' hc1 hc2 => ?_) | (apply GJ.and; exact rfl; intro hg) | (apply GJ.or; exact rfl; intro hg))
          refine wrong3 (e := 5) (by decide) (by decide) hT2 i1 Take.auto Take.auto Take.auto (fun h6 => ?_)
          generalize wrongP 5 s = s6 at *
          repeat (first | exact endA | refine wkP ?_ | refine opB (fun b => ?_) | refine opA (fun a' c' hc1 hc2 => ?_) | (apply GJ.and; exact rfl; intro hg) | (apply GJ.or; exact rfl; intro hg))
          refine word3 (t := [101, 108, 115, 101]) hT2 h6 Take.auto Take.auto Take.auto (fun g5 => ?_)
          generalize kwP (listE l) [101, 108, 115, 101] s6 = e at *
          obtain ⟨eb, s7⟩ := e
          dsimp only at g5 hk ⊢
          cases eb with
          | false =>
            simp only [Bool.false_eq_true, ↓reduceIte] at hk
            repeat (first | exact endA | refine wkP ?_ | refine opB (fun b => ?_) | refine opA (fun a' c' hc1 hc2 => ?_) | (apply GJ.and; exact rfl; intro hg) | (apply GJ.or; exact rfl; intro hg))
            refine must3 (t := [125]) (hT2) g5 Take.auto Take.auto Take.auto (fun g1 => ?_)
            generalize mustP (listE l) [125] s7 = z1 at *
            repeat (first | exact endA | refine wkP ?_ | refine opB (fun b => ?_) | refine opA (fun a' c' hc1 hc2 => ?_) | (apply GJ.and; exact rfl; intro hg) | (apply GJ.or; exact rfl; intro hg))
            refine CallOk.freeze (c := .sl ca _ _ _ _ _) Take.auto (fun ro9 hl9 hc9 => ?_)
            refine radd_ok (d := { node0 with kind := 9, reg := xn, mod := vm, cases := cs, els := -1 }) (x := { nodeZ with ca := ca, cc := cc }) ((hT2).up hl9) (g1.up hl9) ⟨Rs.nil _ 1, Rs.nil _ 1, Rs.nil _ 5, Rs.last hc9⟩ ⟨by simp [node0], by simp [node0], by simp [node0], by dsimp only; omega⟩ Take.auto Take.auto Take.auto (fun ro4 a4 hl4 h4 => ?_)
            have hk2 := hk ro4 a4 (((hl2).trans hl9).trans hl4) h4
            repeat (first | exact endA | refine wkP ?_ | refine opB (fun b => ?_) | refine opA (fun a' c' hc1 hc2 => ?_) | (apply GJ.and; exact rfl; intro hg) | (apply GJ.or; exact rfl; intro hg))
            exact Wk.outS Sup.auto (.refl _) hk2
          | true =>
            simp only [↓reduceIte] at hk
            repeat (first | exact endA | refine wkP ?_ | refine opB (fun b => ?_) | refine opA (fun a' c' hc1 hc2 => ?_) | (apply GJ.and; exact rfl; intro hg) | (apply GJ.or; exact rfl; intro hg))
            refine must3 (t := [58]) hT2 g5 Take.auto Take.auto Take.auto (fun g6 => ?_)
            generalize mustP (listE l) [58] s7 = s8 at *
            repeat (first | exact endA | refine wkP ?_ | refine opB (fun b => ?_) | refine opA (fun a' c' hc1 hc2 => ?_) | (apply GJ.and; exact rfl; intro hg) | (apply GJ.or; exact rfl; intro hg))
            refine hF.run hM2 hT2 g6 Take.auto Take.auto Take.auto (fun ro5 a5 hl5 g7 => ?_)
            generalize F s8 = kx at *
            obtain ⟨kn, s9⟩ := kx
            dsimp only at g7 hk ⊢
            repeat (first | exact endA | refine wkP ?_ | refine opB (fun b => ?_) | refine opA (fun a' c' hc1 hc2 => ?_) | (apply GJ.and; exact rfl; intro hg) | (apply GJ.or; exact rfl; intro hg))
            refine must3 (t := [59]) (hT2.up hl5) g7 Take.auto Take.auto Take.auto (fun g8 => ?_)
            generalize mustP (listE l) [59] s9 = sA at *
            repeat (first | exact endA | refine wkP ?_ | refine opB (fun b => ?_) | refine opA (fun a' c' hc1 hc2 => ?_) | (apply GJ.and; exact rfl; intro hg) | (apply GJ.or; exact rfl; intro hg))
            refine must3 (t := [125]) (hT2.up hl5) g8 Take.auto Take.auto Take.auto (fun g1 => ?_)
            generalize mustP (listE l) [125] sA = z1 at *
            repeat (first | exact endA | refine wkP ?_ | refine opB (fun b => ?_) | refine opA (fun a' c' hc1 hc2 => ?_) | (apply GJ.and; exact rfl; intro hg) | (apply GJ.or; exact rfl; intro hg))
            refine CallOk.freeze (c := .sl ca _ _ _ _ _) Take.auto (fun ro9 hl9 hc9 => ?_)
            refine radd_ok (d := { node0 with kind := 9, reg := xn, mod := vm, cases := cs, els := (kn : Int) }) (x := { nodeZ with ca := ca, cc := cc }) ((hT2.up hl5).up hl9) (g1.up hl9) ⟨Rs.nil _ 1, Rs.nil _ 1, Rs.nil _ 5, Rs.last hc9⟩ ⟨by simp [node0], by simp [node0], by simp [node0], by dsimp only; omega⟩ Take.auto Take.auto Take.auto (fun ro4 a4 hl4 h4 => ?_)
            have hk2 := hk ro4 a4 (((hl2.trans hl5).trans hl9).trans hl4) h4
            repeat (first | exact endA | refine wkP ?_ | refine opB (fun b => ?_) | refine opA (fun a' c' hc1 hc2 => ?_) | (apply GJ.and; exact rfl; intro hg) | (apply GJ.or; exact rfl; intro hg))
            exact Wk.outS Sup.auto (.refl _) hk2
        · rw [if_neg h0] at hk
          repeat (first | exact endA | refine wkP ?_ | refine opB (fun b => ?_) | refine opA (fun a' c' hc1 hc2 => ?_) | (apply GJ.and; exact rfl; intro hg) | (apply GJ.or; exact rfl; intro hg))
          refine word3 (t := [101, 108, 115, 101]) hT2 i1 Take.auto Take.auto Take.auto (fun g5 => ?_)
          generalize kwP (listE l) [101, 108, 115, 101] s = e at *
          obtain ⟨eb, s7⟩ := e
          dsimp only at g5 hk ⊢
          cases eb with
          | false =>
            simp only [Bool.false_eq_true, ↓reduceIte] at hk
            repeat (first | exact endA | refine wkP ?_ | refine opB (fun b => ?_) | refine opA (fun a' c' hc1 hc2 => ?_) | (apply GJ.and; exact rfl; intro hg) | (apply GJ.or; exact rfl; intro hg))
            refine must3 (t := [125]) (hT2) g5 Take.auto Take.auto Take.auto (fun g1 => ?_)
            generalize mustP (listE l) [125] s7 = z1 at *
            repeat (first | exact endA | refine wkP ?_ | refine opB (fun b => ?_) | refine opA (fun a' c' hc1 hc2 => ?_) | (apply GJ.and; exact rfl; intro hg) | (apply GJ.or; exact rfl; intro hg))
            refine CallOk.freeze (c := .sl ca _ _ _ _ _) Take.auto (fun ro9 hl9 hc9 => ?_)
            refine radd_ok (d := { node0 with kind := 9, reg := xn, mod := vm, cases := cs, els := -1 }) (x := { nodeZ with ca := ca, cc := cc }) ((hT2).up hl9) (g1.up hl9) ⟨Rs.nil _ 1, Rs.nil _ 1, Rs.nil _ 5, Rs.last hc9⟩ ⟨by simp [node0], by simp [node0], by simp [node0], by dsimp only; omega⟩ Take.auto Take.auto Take.auto (fun ro4 a4 hl4 h4 => ?_)
            have hk2 := hk ro4 a4 (((hl2).trans hl9).trans hl4) h4
            repeat (first | exact endA | refine wkP ?_ | refine opB (fun b => ?_) | refine opA (fun a' c' hc1 hc2 => ?_) | (apply GJ.and; exact rfl; intro hg) | (apply GJ.or; exact rfl; intro hg))
            exact Wk.outS Sup.auto (.refl _) hk2
          | true =>
            simp only [↓reduceIte] at hk
            repeat (first | exact endA | refine wkP ?_ | refine opB (fun b => ?_) | refine opA (fun a' c' hc1 hc2 => ?_) | (apply GJ.and; exact rfl; intro hg) | (apply GJ.or; exact rfl; intro hg))
            refine must3 (t := [58]) hT2 g5 Take.auto Take.auto Take.auto (fun g6 => ?_)
            generalize mustP (listE l) [58] s7 = s8 at *
            repeat (first | exact endA | refine wkP ?_ | refine opB (fun b => ?_) | refine opA (fun a' c' hc1 hc2 => ?_) | (apply GJ.and; exact rfl; intro hg) | (apply GJ.or; exact rfl; intro hg))
            refine hF.run hM2 hT2 g6 Take.auto Take.auto Take.auto (fun ro5 a5 hl5 g7 => ?_)
            generalize F s8 = kx at *
            obtain ⟨kn, s9⟩ := kx
            dsimp only at g7 hk ⊢
            repeat (first | exact endA | refine wkP ?_ | refine opB (fun b => ?_) | refine opA (fun a' c' hc1 hc2 => ?_) | (apply GJ.and; exact rfl; intro hg) | (apply GJ.or; exact rfl; intro hg))
            refine must3 (t := [59]) (hT2.up hl5) g7 Take.auto Take.auto Take.auto (fun g8 => ?_)
            generalize mustP (listE l) [59] s9 = sA at *
            repeat (first | exact endA | refine wkP ?_ | refine opB (fun b => ?_) | refine opA (fun a' c' hc1 hc2 => ?_) | (apply GJ.and; exact rfl; intro hg) | (apply GJ.or; exact rfl; intro hg))
            refine must3 (t := [125]) (hT2.up hl5) g8 Take.auto Take.auto Take.auto (fun g1 => ?_)
            generalize mustP (listE l) [125] sA = z1 at *
            repeat (first | exact endA | refine wkP ?_ | refine opB (fun b => ?_) | refine opA (fun a' c' hc1 hc2 => ?_) | (apply GJ.and; exact rfl; intro hg) | (apply GJ.or; exact rfl; intro hg))
            refine CallOk.freeze (c := .sl ca _ _ _ _ _) Take.auto (fun ro9 hl9 hc9 => ?_)
            refine radd_ok (d := { node0 with kind := 9, reg := xn, mod := vm, cases := cs, els := (kn : Int) }) (x := { nodeZ with ca := ca, cc := cc }) ((hT2.up hl5).up hl9) (g1.up hl9) ⟨Rs.nil _ 1, Rs.nil _ 1, Rs.nil _ 5, Rs.last hc9⟩ ⟨by simp [node0], by simp [node0], by simp [node0], by dsimp only; omega⟩ Take.auto Take.auto Take.auto (fun ro4 a4 hl4 h4 => ?_)
            have hk2 := hk ro4 a4 (((hl2.trans hl5).trans hl9).trans hl4) h4
            repeat (first | exact endA | refine wkP ?_ | refine opB (fun b => ?_) | refine opA (fun a' c' hc1 hc2 => ?_) | (apply GJ.and; exact rfl; intro hg) | (apply GJ.or; exact rfl; intro hg))
            exact Wk.outS Sup.auto (.refl _) hk2
end
end Go.Proofs.YtnapjcnfgdkmcaaGreatDoor
end
