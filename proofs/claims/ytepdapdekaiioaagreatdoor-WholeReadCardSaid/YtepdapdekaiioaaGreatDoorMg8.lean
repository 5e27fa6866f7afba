/- Texts of a walk, one behind the other. -/
import Derived.HandedShaped
import Derived.Shelf.Vars
import Derived.Test.YtepdapdekaiioaaGreatDoorMg3
import Derived.Test.YtepdapdekaiioaaGreatDoorMg4
import Derived.Test.YtepdapdekaiioaaGreatDoorMg5
import Derived.Test.YtepdapdekaiioaaGreatDoorMg7
section
/- Contracts of the reader: types with a bar between two. -/
namespace Go.Proofs.YtepdapdekaiioaaGreatDoor
open Go Go.E
set_option linter.unusedVariables false
set_option linter.unusedSectionVars false
set_option linter.unusedSimpArgs false
set_option maxRecDepth 10000
section
variable {ro : Ro} {own q q1 q2 : Chs} {K : Value → Ro → Chs → Prop} {l : List TokD} {s : PS} {a : SpecA} {la : Option Addr} {lc r : Nat} {deep : Nat} {F : PS → Nat × PS}
theorem over_code {n : Nat} {s : PS} (hc : s.code = 0) (h : n = 64) : (overP n s).code ≠ 0 := by
  unfold overP wrongP
  rw [if_pos h, if_pos hc]
  exact (by decide : (2 : Nat) ≠ 0)
theorem rsUp {ro ro' : Ro} {a : Option Addr} {n c k : Nat} {cs : List Value} (hl : Le ro ro') (hr : Rs ro a n c k cs) : Rs ro' a n c k cs := by
  haveI : Leq ro ro' := ⟨hl.1⟩
  exact hr.up
set_option maxHeartbeats 8000000 in
theorem rchoice_ok {kd : Int} (hkd : kd = 10 ∨ kd = 11) (hF : KOk la lc r l ((deep : Int) + 1) F) (hst : ∀ s, s.code ≠ 0 → (F s).2.code ≠ 0) (hd : deep ≤ 100) (hM : MaxOk ro) (hT : ToksOk ro la lc l) (h : RdOk ro l s a) (t1 : Take own (rdC r la lc l s a) q1) (t2 : Take q1 (ndC s a) q2) (t3 : Take q2 (dfC s a) q)
    (hk : ∀ ro' a', Le ro ro' → RdOk ro' l (choiceP (listE l) F kd s).2 a' → K (.int .i64 ((choiceP (listE l) F kd s).1 : Int)) ro' (rdC r la lc l (choiceP (listE l) F kd s).2 a' :: ndC (choiceP (listE l) F kd s).2 a' :: dfC (choiceP (listE l) F kd s).2 a' :: q)) :
    CallOk Tryz.prog 93 #[ptr' r, .int .i64 kd, .int .i64 (deep : Int)] ro own K := by
  refine CallOk.perm (three t1 t2 t3) ?_
  unfold choiceP at hk
  refine CallOk.intro (args := [_, _, _]) (rs := [_]) T_ok Tryz.func93 Tryz.call93 rfl rfl (by kernel_rfl) rfl rfl ?_
  repeat (first | exact endA | refine wkP ?_ | refine opB (fun b => ?_) | refine opA (fun a' c' hc1 hc2 => ?_) | (apply GJ.and; exact rfl; intro hg) | (apply GJ.or; exact rfl; intro hg))
  obtain ⟨bN, hbN⟩ : ∃ z : Nat, z = b := ⟨_, rfl⟩
  subst hbN
  refine must3 (t := [123]) hT h Take.auto Take.auto Take.auto (fun h1 => ?_)
  generalize mustP (listE l) [123] s = s1 at *
  obtain ⟨R, hR⟩ : ∃ R, R = pickP (listE l) F kd s1 := ⟨_, rfl⟩
  rw [← hR] at hk
  unfold pickP at hR
  repeat (first | exact endA | refine wkP ?_ | refine opB (fun b => ?_) | refine opA (fun a' c' hc1 hc2 => ?_) | (apply GJ.and; exact rfl; intro hg) | (apply GJ.or; exact rfl; intro hg))
  refine LoopOk.auto (ι := Bool × List Int × List Bool × PS × SpecA × Option Addr × Nat × Option Addr × Nat) Keep.auto (fun (m, ks, ls, s, a, ka, kc, wa, wc) => [(8, .bool m)]) (fun (m, ks, ls, s, a, ka, kc, wa, wc) => rdC r la lc l s a :: ndC s a :: dfC s a :: .sl ka ks.length kc 3 1 (kidsV ks) :: .sl wa ls.length wc 4 1 (lastV ls) :: .blk bN 56 (nodeV { node0 with kind := kd, kids := ks, last := ls } { nodeZ with ka := ka, kc := kc, la := wa, lc := wc }) :: q) (fun (m, ks, ls, s, a, ka, kc, wa, wc) ro2 => RdOk ro2 l s a ∧ R = (if m = true ∧ s.code = 0 then choicesP (listE l) F kd (70 - ks.length) ks ls s else (ks, ls, s)) ∧ (ks.length ≤ 64 ∨ (ks.length = 65 ∧ s.code ≠ 0)) ∧ ls.length ≤ ks.length ∧ ks.length ≤ kc ∧ kc ≤ maxLen ∧ ls.length ≤ wc ∧ wc ≤ maxLen) (fun (m, ks, ls, s, a, ka, kc, wa, wc) => (70 - ks.length) + (if m = true then 1 else 0)) (true, [], [], s1, a, none, 0, none, 0) ?_ Sub.auto Sup.auto ?_
  · refine ⟨h1, ?_, .inl (Nat.zero_le _), Nat.le_refl _, Nat.le_refl _, Nat.zero_le _, Nat.le_refl _, Nat.zero_le _⟩
    rw [hR]
    by_cases hc : s1.code = 0
    · rw [if_pos hc, if_pos ⟨rfl, hc⟩]; rfl
    · rw [if_neg hc, if_neg (fun h => hc h.2)]
  clear h1 hR h
  rintro ⟨m, ks, ls, s, a, ka, kc, wa, wc⟩ ro2 hl2 ⟨i1, i2, i3, i4, i5, i6, i7, i8⟩
  dsimp only [List.cons_append, List.nil_append] at i1 i2 i3 i4 i5 i6 i7 i8 ⊢
  dsimp only [nodeV, node0, nodeZ]
  have hM2 := hM.le hl2
  have hT2 := hT.up hl2
  have hkl : (kidsV ks).length = ks.length * 1 := by simp [kidsV]
  have hwl : (lastV ls).length = ls.length * 1 := by simp [lastV]
  cases m with
  | false =>
    rw [if_neg (fun h => by cases h.1)] at i2
    subst i2
    dsimp only at hk
    repeat (first | exact endA | refine wkP ?_ | refine opB (fun b => ?_) | refine opA (fun a' c' hc1 hc2 => ?_) | (apply GJ.and; exact rfl; intro hg) | (apply GJ.or; exact rfl; intro hg))
    refine must3 (t := [125]) hT2 i1 Take.auto Take.auto Take.auto (fun g1 => ?_)
    generalize mustP (listE l) [125] s = z1 at *
    repeat (first | exact endA | refine wkP ?_ | refine opB (fun b => ?_) | refine opA (fun a' c' hc1 hc2 => ?_) | (apply GJ.and; exact rfl; intro hg) | (apply GJ.or; exact rfl; intro hg))
    refine CallOk.freeze (c := .sl ka _ _ 3 _ _) Take.auto (fun ro8 hl8 hc8 => ?_)
    refine CallOk.freeze (c := .sl wa _ _ 4 _ _) Take.auto (fun ro9 hl9 hc9 => ?_)
    refine radd_ok (d := { node0 with kind := kd, kids := ks, last := ls }) (x := { nodeZ with ka := ka, kc := kc, la := wa, lc := wc }) (hT2.up (hl8.trans hl9)) (g1.up (hl8.trans hl9)) ⟨rsUp hl9 (Rs.last hc8), Rs.last hc9, Rs.nil _ 5, Rs.nil _ 2⟩ ⟨by dsimp only; omega, by dsimp only; omega, by simp [node0], by simp [node0]⟩ Take.auto Take.auto Take.auto (fun ro4 a4 hl4 h4 => ?_)
    have hk2 := hk ro4 a4 (((hl2.trans hl8).trans hl9).trans hl4) h4
    repeat (first | exact endA | refine wkP ?_ | refine opB (fun b => ?_) | refine opA (fun a' c' hc1 hc2 => ?_) | (apply GJ.and; exact rfl; intro hg) | (apply GJ.or; exact rfl; intro hg))
    exact Wk.outS Sup.auto (.refl _) hk2
  | true =>
    by_cases hc : s.code = 0
    · rw [if_pos ⟨rfl, hc⟩] at i2
      repeat (first | exact endA | refine wkP ?_ | refine opB (fun b => ?_) | refine opA (fun a' c' hc1 hc2 => ?_) | (apply GJ.and; exact rfl; intro hg) | (apply GJ.or; exact rfl; intro hg))
      refine rok_ok i1 Take.auto ?_
      rw [decide_eq_true hc]
      rw [show 70 - ks.length = (69 - ks.length) + 1 by omega, choicesP] at i2
      repeat (first | exact endA | refine wkP ?_ | refine opB (fun b => ?_) | refine opA (fun a' c' hc1 hc2 => ?_) | (apply GJ.and; exact rfl; intro hg) | (apply GJ.or; exact rfl; intro hg))
      by_cases h64 : ks.length = 64
      · have hov := over_code hc h64
        rw [show overP ks.length s = wrongP 2 s from if_pos h64] at hov i2
        repeat (first | exact endA | refine wkP ?_ | refine opB (fun b => ?_) | refine opA (fun a' c' hc1 hc2 => ?_) | (apply GJ.and; exact rfl; intro hg) | (apply GJ.or; exact rfl; intro hg))
        refine wrong3 (e := 2) (by decide) (by decide) hT2 i1 Take.auto Take.auto Take.auto (fun h4 => ?_)
        generalize wrongP 2 s = s4 at *
        have hstf : (s4).code ≠ 0 → (signP (listE l) [124] (F (lastP (listE l) kd s4).2).2).2.code ≠ 0 := fun hh => by
          haveI := sticky_clo l
          exact (InP.sign (E := listE l) (I := fun s => s.code ≠ 0) ⟨hst _ (InP.last (E := listE l) (I := fun s => s.code ≠ 0) ⟨hh⟩ kd).get⟩ [124]).get
        rcases hkd with rfl | rfl
        · rw [show lastP (listE l) 10 s4 = (false, s4) from rfl, show lastsP 10 ls false = ls from rfl] at i2
          rw [show lastP (listE l) 10 s4 = (false, s4) from rfl] at hstf
          dsimp only at i2 hstf
          repeat (first | exact endA | refine wkG ?_ | refine opB (fun b => ?_) | refine opA (fun a' c' hc1 hc2 => ?_) | (show GJ _ _ _ _ _ _ _; first | (apply GJ.and; exact rfl; intro hg) | (apply GJ.or; exact rfl; intro hg) | refine GJ.t omAuto ?_ | refine GJ.f omAuto ?_ | refine GJ.ft omAuto ?_ | refine GJ.ff omAuto ?_))
          try refine SeqOk.pass ?_
          repeat (first | exact endA | refine wkG ?_ | refine opB (fun b => ?_) | refine opA (fun a' c' hc1 hc2 => ?_) | (show GJ _ _ _ _ _ _ _; first | (apply GJ.and; exact rfl; intro hg) | (apply GJ.or; exact rfl; intro hg) | refine GJ.t omAuto ?_ | refine GJ.f omAuto ?_ | refine GJ.ft omAuto ?_ | refine GJ.ff omAuto ?_))
          refine Bs.mk ⟨[.blk bN 56 [.int .i64 10, .int .i64 0, .bool false, .bool false, .bool false, .int .u64 ((0 : Nat) : Int), .int .u64 ((0 : Nat) : Int), str [], str [], .int .u64 ((0 : Nat) : Int), .int .u64 ((0 : Nat) : Int), .slice ka ks.length kc, .slice wa (ls).length wc, .slice none 0 0, str [], .int .u64 ((0 : Nat) : Int), .slice none 0 0, .int .i64 0]], Sup.auto, ?_⟩
          repeat (first | exact endA | refine wkG ?_ | refine opB (fun b => ?_) | refine opA (fun a' c' hc1 hc2 => ?_) | (show GJ _ _ _ _ _ _ _; first | (apply GJ.and; exact rfl; intro hg) | (apply GJ.or; exact rfl; intro hg) | refine GJ.t omAuto ?_ | refine GJ.f omAuto ?_ | refine GJ.ft omAuto ?_ | refine GJ.ff omAuto ?_))
          refine hF.run hM2 hT2 h4 Take.auto Take.auto Take.auto (fun ro3 a3 hl3 h6 => ?_)
          generalize F s4 = y at *
          obtain ⟨kn, s6⟩ := y
          dsimp only at h6 i2 hstf ⊢
          refine wkS ?_
          refine opB (fun b2 => ?_)
          refine wkS ?_
          repeat (first | exact endA | refine wkG ?_ | refine opB (fun b => ?_) | refine opA (fun a' c' hc1 hc2 => ?_) | (show GJ _ _ _ _ _ _ _; first | (apply GJ.and; exact rfl; intro hg) | (apply GJ.or; exact rfl; intro hg) | refine GJ.t omAuto ?_ | refine GJ.f omAuto ?_ | refine GJ.ft omAuto ?_ | refine GJ.ff omAuto ?_))
          have e2 : kidsV ks ++ [Value.int .i64 (kn : Int)] = kidsV (ks ++ [(kn : Int)]) := by simp [kidsV, flat, Value.cells]
          have e1 : ks.length + 1 = (ks ++ [(kn : Int)]).length := by simp
          rw [e2]
          rw [e1] at hc1 ⊢
          repeat (first | exact endA | refine wkP ?_ | refine opB (fun b => ?_) | refine opA (fun a' c' hc1 hc2 => ?_) | (apply GJ.and; exact rfl; intro hg) | (apply GJ.or; exact rfl; intro hg))
          refine sign3 (t := [124]) (hT2.up hl3) h6 Take.auto Take.auto Take.auto (fun h7 => ?_)
          generalize signP (listE l) [124] s6 = z at *
          obtain ⟨gb, s7⟩ := z
          dsimp only at h7 i2 hstf ⊢
          repeat (first | exact endA | refine wkP ?_ | refine opB (fun b => ?_) | refine opA (fun a' c' hc1 hc2 => ?_) | (apply GJ.and; exact rfl; intro hg) | (apply GJ.or; exact rfl; intro hg))
          refine Wk.id ⟨(gb, ks ++ [(kn : Int)], ls, s7, a3, a', c', wa, wc), ?_, ?_, Sub.auto, Sup.auto⟩
          all_goals try dsimp only
          · refine ⟨h7, ?_, ?_, ?_, hc1, hc2, i7, i8⟩
            · rw [← e1, show 70 - (ks.length + 1) = 69 - ks.length by omega]; exact i2
            · rw [← e1]
              exact .inr ⟨by omega, hstf hov⟩
            · have h7 := i4
              rw [← e1]; omega
          · rw [← e1]
            have : (if gb = true then 1 else 0) ≤ 1 := by split <;> omega
            simp only [↓reduceIte]
            omega
        · rw [show lastP (listE l) 11 s4 = kwP (listE l) [108, 97, 115, 116] s4 from rfl] at i2 hstf
          repeat (first | exact endA | refine wkG ?_ | refine opB (fun b => ?_) | refine opA (fun a' c' hc1 hc2 => ?_) | (show GJ _ _ _ _ _ _ _; first | (apply GJ.and; exact rfl; intro hg) | (apply GJ.or; exact rfl; intro hg) | refine GJ.t omAuto ?_ | refine GJ.f omAuto ?_ | refine GJ.ft omAuto ?_ | refine GJ.ff omAuto ?_))
          try refine SeqOk.pass ?_
          repeat (first | exact endA | refine wkG ?_ | refine opB (fun b => ?_) | refine opA (fun a' c' hc1 hc2 => ?_) | (show GJ _ _ _ _ _ _ _; first | (apply GJ.and; exact rfl; intro hg) | (apply GJ.or; exact rfl; intro hg) | refine GJ.t omAuto ?_ | refine GJ.f omAuto ?_ | refine GJ.ft omAuto ?_ | refine GJ.ff omAuto ?_))
          refine Bs.mk ⟨[.blk bN 56 [.int .i64 11, .int .i64 0, .bool false, .bool false, .bool false, .int .u64 ((0 : Nat) : Int), .int .u64 ((0 : Nat) : Int), str [], str [], .int .u64 ((0 : Nat) : Int), .int .u64 ((0 : Nat) : Int), .slice ka ks.length kc, .slice wa ls.length wc, .slice none 0 0, str [], .int .u64 ((0 : Nat) : Int), .slice none 0 0, .int .i64 0]], Sup.auto, ?_⟩
          repeat (first | exact endA | refine wkG ?_ | refine opB (fun b => ?_) | refine opA (fun a' c' hc1 hc2 => ?_) | (show GJ _ _ _ _ _ _ _; first | (apply GJ.and; exact rfl; intro hg) | (apply GJ.or; exact rfl; intro hg) | refine GJ.t omAuto ?_ | refine GJ.f omAuto ?_ | refine GJ.ft omAuto ?_ | refine GJ.ff omAuto ?_))
          refine word3 (t := [108, 97, 115, 116]) hT2 h4 Take.auto Take.auto Take.auto (fun h5 => ?_)
          generalize kwP (listE l) [108, 97, 115, 116] s4 = x at *
          obtain ⟨wb, s5⟩ := x
          dsimp only at h5 i2 hstf ⊢
          refine wkS ?_
          refine opB (fun b2 => ?_)
          refine wkS ?_
          repeat (first | exact endA | refine wkG ?_ | refine opB (fun b => ?_) | refine opA (fun a' c' hc1 hc2 => ?_) | (show GJ _ _ _ _ _ _ _; first | (apply GJ.and; exact rfl; intro hg) | (apply GJ.or; exact rfl; intro hg) | refine GJ.t omAuto ?_ | refine GJ.f omAuto ?_ | refine GJ.ft omAuto ?_ | refine GJ.ff omAuto ?_))
          have e3 : lastV ls ++ [Value.bool wb] = lastV (ls ++ [wb]) := by simp [lastV, flat, Value.cells]
          have e4 : ls.length + 1 = (ls ++ [wb]).length := by simp
          rw [e3]
          rw [e4] at hc1 ⊢
          have hd1 := hc1
          have hd2 := hc2
          have hd3 : (ls ++ [wb]).length ≤ ks.length + 1 := by rw [← e4]; omega
          obtain ⟨wa2, hwa2⟩ : ∃ z : Option Addr, z = a' := ⟨_, rfl⟩
          subst hwa2
          obtain ⟨wc2, hwc2⟩ : ∃ z : Nat, z = c' := ⟨_, rfl⟩
          subst hwc2
          repeat (first | exact endA | refine wkG ?_ | refine opB (fun b => ?_) | refine opA (fun a' c' hc1 hc2 => ?_) | (show GJ _ _ _ _ _ _ _; first | (apply GJ.and; exact rfl; intro hg) | (apply GJ.or; exact rfl; intro hg) | refine GJ.t omAuto ?_ | refine GJ.f omAuto ?_ | refine GJ.ft omAuto ?_ | refine GJ.ff omAuto ?_))
          refine Bs.mk ⟨[.blk bN 56 [.int .i64 11, .int .i64 0, .bool false, .bool false, .bool false, .int .u64 ((0 : Nat) : Int), .int .u64 ((0 : Nat) : Int), str [], str [], .int .u64 ((0 : Nat) : Int), .int .u64 ((0 : Nat) : Int), .slice ka ks.length kc, .slice wa2 ((ls ++ [wb])).length wc2, .slice none 0 0, str [], .int .u64 ((0 : Nat) : Int), .slice none 0 0, .int .i64 0]], Sup.auto, ?_⟩
          repeat (first | exact endA | refine wkG ?_ | refine opB (fun b => ?_) | refine opA (fun a' c' hc1 hc2 => ?_) | (show GJ _ _ _ _ _ _ _; first | (apply GJ.and; exact rfl; intro hg) | (apply GJ.or; exact rfl; intro hg) | refine GJ.t omAuto ?_ | refine GJ.f omAuto ?_ | refine GJ.ft omAuto ?_ | refine GJ.ff omAuto ?_))
          refine hF.run hM2 hT2 h5 Take.auto Take.auto Take.auto (fun ro3 a3 hl3 h6 => ?_)
          generalize F s5 = y at *
          obtain ⟨kn, s6⟩ := y
          dsimp only at h6 i2 hstf ⊢
          refine wkS ?_
          refine opB (fun b2 => ?_)
          refine wkS ?_
          repeat (first | exact endA | refine wkG ?_ | refine opB (fun b => ?_) | refine opA (fun a' c' hc1 hc2 => ?_) | (show GJ _ _ _ _ _ _ _; first | (apply GJ.and; exact rfl; intro hg) | (apply GJ.or; exact rfl; intro hg) | refine GJ.t omAuto ?_ | refine GJ.f omAuto ?_ | refine GJ.ft omAuto ?_ | refine GJ.ff omAuto ?_))
          have e2 : kidsV ks ++ [Value.int .i64 (kn : Int)] = kidsV (ks ++ [(kn : Int)]) := by simp [kidsV, flat, Value.cells]
          have e1 : ks.length + 1 = (ks ++ [(kn : Int)]).length := by simp
          rw [e2]
          rw [e1] at hc1 ⊢
          repeat (first | exact endA | refine wkP ?_ | refine opB (fun b => ?_) | refine opA (fun a' c' hc1 hc2 => ?_) | (apply GJ.and; exact rfl; intro hg) | (apply GJ.or; exact rfl; intro hg))
          refine sign3 (t := [124]) (hT2.up hl3) h6 Take.auto Take.auto Take.auto (fun h7 => ?_)
          generalize signP (listE l) [124] s6 = z at *
          obtain ⟨gb, s7⟩ := z
          dsimp only at h7 i2 hstf ⊢
          repeat (first | exact endA | refine wkP ?_ | refine opB (fun b => ?_) | refine opA (fun a' c' hc1 hc2 => ?_) | (apply GJ.and; exact rfl; intro hg) | (apply GJ.or; exact rfl; intro hg))
          refine Wk.id ⟨(gb, ks ++ [(kn : Int)], (ls ++ [wb]), s7, a3, a', c', wa2, wc2), ?_, ?_, Sub.auto, Sup.auto⟩
          all_goals try dsimp only
          · refine ⟨h7, ?_, ?_, ?_, hc1, hc2, hd1, hd2⟩
            · rw [← e1, show 70 - (ks.length + 1) = 69 - ks.length by omega]; exact i2
            · rw [← e1]
              exact .inr ⟨by omega, hstf hov⟩
            · have h7 := hd3
              rw [← e1]; omega
          · rw [← e1]
            have : (if gb = true then 1 else 0) ≤ 1 := by split <;> omega
            simp only [↓reduceIte]
            omega
      · rw [show overP ks.length s = s from if_neg h64] at i2
        have hle : ks.length ≤ 63 := by
          rcases i3 with h | ⟨h, hh⟩
          · omega
          · exact absurd hc hh
        repeat (first | exact endA | refine wkP ?_ | refine opB (fun b => ?_) | refine opA (fun a' c' hc1 hc2 => ?_) | (apply GJ.and; exact rfl; intro hg) | (apply GJ.or; exact rfl; intro hg))
        have hstf : (s).code ≠ 0 → (signP (listE l) [124] (F (lastP (listE l) kd s).2).2).2.code ≠ 0 := fun hh => by
          haveI := sticky_clo l
          exact (InP.sign (E := listE l) (I := fun s => s.code ≠ 0) ⟨hst _ (InP.last (E := listE l) (I := fun s => s.code ≠ 0) ⟨hh⟩ kd).get⟩ [124]).get
        rcases hkd with rfl | rfl
        · rw [show lastP (listE l) 10 s = (false, s) from rfl, show lastsP 10 ls false = ls from rfl] at i2
          rw [show lastP (listE l) 10 s = (false, s) from rfl] at hstf
          dsimp only at i2 hstf
          repeat (first | exact endA | refine wkG ?_ | refine opB (fun b => ?_) | refine opA (fun a' c' hc1 hc2 => ?_) | (show GJ _ _ _ _ _ _ _; first | (apply GJ.and; exact rfl; intro hg) | (apply GJ.or; exact rfl; intro hg) | refine GJ.t omAuto ?_ | refine GJ.f omAuto ?_ | refine GJ.ft omAuto ?_ | refine GJ.ff omAuto ?_))
          try refine SeqOk.pass ?_
          repeat (first | exact endA | refine wkG ?_ | refine opB (fun b => ?_) | refine opA (fun a' c' hc1 hc2 => ?_) | (show GJ _ _ _ _ _ _ _; first | (apply GJ.and; exact rfl; intro hg) | (apply GJ.or; exact rfl; intro hg) | refine GJ.t omAuto ?_ | refine GJ.f omAuto ?_ | refine GJ.ft omAuto ?_ | refine GJ.ff omAuto ?_))
          refine Bs.mk ⟨[.blk bN 56 [.int .i64 10, .int .i64 0, .bool false, .bool false, .bool false, .int .u64 ((0 : Nat) : Int), .int .u64 ((0 : Nat) : Int), str [], str [], .int .u64 ((0 : Nat) : Int), .int .u64 ((0 : Nat) : Int), .slice ka ks.length kc, .slice wa (ls).length wc, .slice none 0 0, str [], .int .u64 ((0 : Nat) : Int), .slice none 0 0, .int .i64 0]], Sup.auto, ?_⟩
          repeat (first | exact endA | refine wkG ?_ | refine opB (fun b => ?_) | refine opA (fun a' c' hc1 hc2 => ?_) | (show GJ _ _ _ _ _ _ _; first | (apply GJ.and; exact rfl; intro hg) | (apply GJ.or; exact rfl; intro hg) | refine GJ.t omAuto ?_ | refine GJ.f omAuto ?_ | refine GJ.ft omAuto ?_ | refine GJ.ff omAuto ?_))
          refine hF.run hM2 hT2 i1 Take.auto Take.auto Take.auto (fun ro3 a3 hl3 h6 => ?_)
          generalize F s = y at *
          obtain ⟨kn, s6⟩ := y
          dsimp only at h6 i2 hstf ⊢
          refine wkS ?_
          refine opB (fun b2 => ?_)
          refine wkS ?_
          repeat (first | exact endA | refine wkG ?_ | refine opB (fun b => ?_) | refine opA (fun a' c' hc1 hc2 => ?_) | (show GJ _ _ _ _ _ _ _; first | (apply GJ.and; exact rfl; intro hg) | (apply GJ.or; exact rfl; intro hg) | refine GJ.t omAuto ?_ | refine GJ.f omAuto ?_ | refine GJ.ft omAuto ?_ | refine GJ.ff omAuto ?_))
          have e2 : kidsV ks ++ [Value.int .i64 (kn : Int)] = kidsV (ks ++ [(kn : Int)]) := by simp [kidsV, flat, Value.cells]
          have e1 : ks.length + 1 = (ks ++ [(kn : Int)]).length := by simp
          rw [e2]
          rw [e1] at hc1 ⊢
          repeat (first | exact endA | refine wkP ?_ | refine opB (fun b => ?_) | refine opA (fun a' c' hc1 hc2 => ?_) | (apply GJ.and; exact rfl; intro hg) | (apply GJ.or; exact rfl; intro hg))
          refine sign3 (t := [124]) (hT2.up hl3) h6 Take.auto Take.auto Take.auto (fun h7 => ?_)
          generalize signP (listE l) [124] s6 = z at *
          obtain ⟨gb, s7⟩ := z
          dsimp only at h7 i2 hstf ⊢
          repeat (first | exact endA | refine wkP ?_ | refine opB (fun b => ?_) | refine opA (fun a' c' hc1 hc2 => ?_) | (apply GJ.and; exact rfl; intro hg) | (apply GJ.or; exact rfl; intro hg))
          refine Wk.id ⟨(gb, ks ++ [(kn : Int)], ls, s7, a3, a', c', wa, wc), ?_, ?_, Sub.auto, Sup.auto⟩
          all_goals try dsimp only
          · refine ⟨h7, ?_, ?_, ?_, hc1, hc2, i7, i8⟩
            · rw [← e1, show 70 - (ks.length + 1) = 69 - ks.length by omega]; exact i2
            · rw [← e1]
              exact .inl (by omega)
            · have h7 := i4
              rw [← e1]; omega
          · rw [← e1]
            have : (if gb = true then 1 else 0) ≤ 1 := by split <;> omega
            simp only [↓reduceIte]
            omega
        · rw [show lastP (listE l) 11 s = kwP (listE l) [108, 97, 115, 116] s from rfl] at i2 hstf
          repeat (first | exact endA | refine wkG ?_ | refine opB (fun b => ?_) | refine opA (fun a' c' hc1 hc2 => ?_) | (show GJ _ _ _ _ _ _ _; first | (apply GJ.and; exact rfl; intro hg) | (apply GJ.or; exact rfl; intro hg) | refine GJ.t omAuto ?_ | refine GJ.f omAuto ?_ | refine GJ.ft omAuto ?_ | refine GJ.ff omAuto ?_))
          try refine SeqOk.pass ?_
          repeat (first | exact endA | refine wkG ?_ | refine opB (fun b => ?_) | refine opA (fun a' c' hc1 hc2 => ?_) | (show GJ _ _ _ _ _ _ _; first | (apply GJ.and; exact rfl; intro hg) | (apply GJ.or; exact rfl; intro hg) | refine GJ.t omAuto ?_ | refine GJ.f omAuto ?_ | refine GJ.ft omAuto ?_ | refine GJ.ff omAuto ?_))
          refine Bs.mk ⟨[.blk bN 56 [.int .i64 11, .int .i64 0, .bool false, .bool false, .bool false, .int .u64 ((0 : Nat) : Int), .int .u64 ((0 : Nat) : Int), str [], str [], .int .u64 ((0 : Nat) : Int), .int .u64 ((0 : Nat) : Int), .slice ka ks.length kc, .slice wa ls.length wc, .slice none 0 0, str [], .int .u64 ((0 : Nat) : Int), .slice none 0 0, .int .i64 0]], Sup.auto, ?_⟩
          repeat (first | exact endA | refine wkG ?_ | refine opB (fun b => ?_) | refine opA (fun a' c' hc1 hc2 => ?_) | (show GJ _ _ _ _ _ _ _; first | (apply GJ.and; exact rfl; intro hg) | (apply GJ.or; exact rfl; intro hg) | refine GJ.t omAuto ?_ | refine GJ.f omAuto ?_ | refine GJ.ft omAuto ?_ | refine GJ.ff omAuto ?_))
          refine word3 (t := [108, 97, 115, 116]) hT2 i1 Take.auto Take.auto Take.auto (fun h5 => ?_)
          generalize kwP (listE l) [108, 97, 115, 116] s = x at *
          obtain ⟨wb, s5⟩ := x
          dsimp only at h5 i2 hstf ⊢
          refine wkS ?_
          refine opB (fun b2 => ?_)
          refine wkS ?_
          repeat (first | exact endA | refine wkG ?_ | refine opB (fun b => ?_) | refine opA (fun a' c' hc1 hc2 => ?_) | (show GJ _ _ _ _ _ _ _; first | (apply GJ.and; exact rfl; intro hg) | (apply GJ.or; exact rfl; intro hg) | refine GJ.t omAuto ?_ | refine GJ.f omAuto ?_ | refine GJ.ft omAuto ?_ | refine GJ.ff omAuto ?_))
          have e3 : lastV ls ++ [Value.bool wb] = lastV (ls ++ [wb]) := by simp [lastV, flat, Value.cells]
          have e4 : ls.length + 1 = (ls ++ [wb]).length := by simp
          rw [e3]
          rw [e4] at hc1 ⊢
          have hd1 := hc1
          have hd2 := hc2
          have hd3 : (ls ++ [wb]).length ≤ ks.length + 1 := by rw [← e4]; omega
          obtain ⟨wa2, hwa2⟩ : ∃ z : Option Addr, z = a' := ⟨_, rfl⟩
          subst hwa2
          obtain ⟨wc2, hwc2⟩ : ∃ z : Nat, z = c' := ⟨_, rfl⟩
          subst hwc2
          repeat (first | exact endA | refine wkG ?_ | refine opB (fun b => ?_) | refine opA (fun a' c' hc1 hc2 => ?_) | (show GJ _ _ _ _ _ _ _; first | (apply GJ.and; exact rfl; intro hg) | (apply GJ.or; exact rfl; intro hg) | refine GJ.t omAuto ?_ | refine GJ.f omAuto ?_ | refine GJ.ft omAuto ?_ | refine GJ.ff omAuto ?_))
          refine Bs.mk ⟨[.blk bN 56 [.int .i64 11, .int .i64 0, .bool false, .bool false, .bool false, .int .u64 ((0 : Nat) : Int), .int .u64 ((0 : Nat) : Int), str [], str [], .int .u64 ((0 : Nat) : Int), .int .u64 ((0 : Nat) : Int), .slice ka ks.length kc, .slice wa2 ((ls ++ [wb])).length wc2, .slice none 0 0, str [], .int .u64 ((0 : Nat) : Int), .slice none 0 0, .int .i64 0]], Sup.auto, ?_⟩
          repeat (first | exact endA | refine wkG ?_ | refine opB (fun b => ?_) | refine opA (fun a' c' hc1 hc2 => ?_) | (show GJ _ _ _ _ _ _ _; first | (apply GJ.and; exact rfl; intro hg) | (apply GJ.or; exact rfl; intro hg) | refine GJ.t omAuto ?_ | refine GJ.f omAuto ?_ | refine GJ.ft omAuto ?_ | refine GJ.ff omAuto ?_))
          refine hF.run hM2 hT2 h5 Take.auto Take.auto Take.auto (fun ro3 a3 hl3 h6 => ?_)
          generalize F s5 = y at *
          obtain ⟨kn, s6⟩ := y
          dsimp only at h6 i2 hstf ⊢
          refine wkS ?_
          refine opB (fun b2 => ?_)
          refine wkS ?_
          repeat (first | exact endA | refine wkG ?_ | refine opB (fun b => ?_) | refine opA (fun a' c' hc1 hc2 => ?_) | (show GJ _ _ _ _ _ _ _; first | (apply GJ.and; exact rfl; intro hg) | (apply GJ.or; exact rfl; intro hg) | refine GJ.t omAuto ?_ | refine GJ.f omAuto ?_ | refine GJ.ft omAuto ?_ | refine GJ.ff omAuto ?_))
          have e2 : kidsV ks ++ [Value.int .i64 (kn : Int)] = kidsV (ks ++ [(kn : Int)]) := by simp [kidsV, flat, Value.cells]
          have e1 : ks.length + 1 = (ks ++ [(kn : Int)]).length := by simp
          rw [e2]
          rw [e1] at hc1 ⊢
          repeat (first | exact endA | refine wkP ?_ | refine opB (fun b => ?_) | refine opA (fun a' c' hc1 hc2 => ?_) | (apply GJ.and; exact rfl; intro hg) | (apply GJ.or; exact rfl; intro hg))
          refine sign3 (t := [124]) (hT2.up hl3) h6 Take.auto Take.auto Take.auto (fun h7 => ?_)
          generalize signP (listE l) [124] s6 = z at *
          obtain ⟨gb, s7⟩ := z
          dsimp only at h7 i2 hstf ⊢
          repeat (first | exact endA | refine wkP ?_ | refine opB (fun b => ?_) | refine opA (fun a' c' hc1 hc2 => ?_) | (apply GJ.and; exact rfl; intro hg) | (apply GJ.or; exact rfl; intro hg))
          refine Wk.id ⟨(gb, ks ++ [(kn : Int)], (ls ++ [wb]), s7, a3, a', c', wa2, wc2), ?_, ?_, Sub.auto, Sup.auto⟩
          all_goals try dsimp only
          · refine ⟨h7, ?_, ?_, ?_, hc1, hc2, hd1, hd2⟩
            · rw [← e1, show 70 - (ks.length + 1) = 69 - ks.length by omega]; exact i2
            · rw [← e1]
              exact .inl (by omega)
            · have h7 := hd3
              rw [← e1]; omega
          · rw [← e1]
            have : (if gb = true then 1 else 0) ≤ 1 := by split <;> omega
            simp only [↓reduceIte]
            omega
    · rw [if_neg (fun h => hc h.2)] at i2
      subst i2
      dsimp only at hk
      repeat (first | exact endA | refine wkP ?_ | refine opB (fun b => ?_) | refine opA (fun a' c' hc1 hc2 => ?_) | (apply GJ.and; exact rfl; intro hg) | (apply GJ.or; exact rfl; intro hg))
      refine rok_ok i1 Take.auto ?_
      rw [decide_eq_false hc]
      repeat (first | exact endA | refine wkP ?_ | refine opB (fun b => ?_) | refine opA (fun a' c' hc1 hc2 => ?_) | (apply GJ.and; exact rfl; intro hg) | (apply GJ.or; exact rfl; intro hg))
      refine must3 (t := [125]) hT2 i1 Take.auto Take.auto Take.auto (fun g1 => ?_)
      generalize mustP (listE l) [125] s = z1 at *
      repeat (first | exact endA | refine wkP ?_ | refine opB (fun b => ?_) | refine opA (fun a' c' hc1 hc2 => ?_) | (apply GJ.and; exact rfl; intro hg) | (apply GJ.or; exact rfl; intro hg))
      refine CallOk.freeze (c := .sl ka _ _ 3 _ _) Take.auto (fun ro8 hl8 hc8 => ?_)
      refine CallOk.freeze (c := .sl wa _ _ 4 _ _) Take.auto (fun ro9 hl9 hc9 => ?_)
      refine radd_ok (d := { node0 with kind := kd, kids := ks, last := ls }) (x := { nodeZ with ka := ka, kc := kc, la := wa, lc := wc }) (hT2.up (hl8.trans hl9)) (g1.up (hl8.trans hl9)) ⟨rsUp hl9 (Rs.last hc8), Rs.last hc9, Rs.nil _ 5, Rs.nil _ 2⟩ ⟨by dsimp only; omega, by dsimp only; omega, by simp [node0], by simp [node0]⟩ Take.auto Take.auto Take.auto (fun ro4 a4 hl4 h4 => ?_)
      have hk2 := hk ro4 a4 (((hl2.trans hl8).trans hl9).trans hl4) h4
      repeat (first | exact endA | refine wkP ?_ | refine opB (fun b => ?_) | refine opA (fun a' c' hc1 hc2 => ?_) | (apply GJ.and; exact rfl; intro hg) | (apply GJ.or; exact rfl; intro hg))
      exact Wk.outS Sup.auto (.refl _) hk2
end
end Go.Proofs.YtepdapdekaiioaaGreatDoor
end
section
/- Contracts of the reader: types that begin with a word. -/
namespace Go.Proofs.YtepdapdekaiioaaGreatDoor
open Go Go.E
set_option linter.unusedVariables false
set_option linter.unusedSectionVars false
set_option linter.unusedSimpArgs false
set_option maxRecDepth 10000
section
variable {ro : Ro} {own q q1 q2 : Chs} {K : Value → Ro → Chs → Prop} {l : List TokD} {s : PS} {a : SpecA} {la : Option Addr} {lc r : Nat} {deep : Nat} {F : PS → Nat × PS}
set_option maxHeartbeats 8000000 in
theorem rnamed_ok (hF : KOk la lc r l ((deep : Int) + 1) F) (hst : ∀ s, s.code ≠ 0 → (F s).2.code ≠ 0) (hd : deep ≤ 100) (hM : MaxOk ro) (hT : ToksOk ro la lc l) (h : RdOk ro l s a) (t1 : Take own (rdC r la lc l s a) q1) (t2 : Take q1 (ndC s a) q2) (t3 : Take q2 (dfC s a) q)
    (hk : ∀ ro' a', Le ro ro' → RdOk ro' l (namedP numD (listE l) F s).2 a' → K (.int .i64 ((namedP numD (listE l) F s).1 : Int)) ro' (rdC r la lc l (namedP numD (listE l) F s).2 a' :: ndC (namedP numD (listE l) F s).2 a' :: dfC (namedP numD (listE l) F s).2 a' :: q)) :
    CallOk Tryz.prog 67 #[ptr' r, .int .i64 (deep : Int)] ro own K := by
  refine CallOk.perm (three t1 t2 t3) ?_
  unfold namedP at hk
  refine CallOk.intro (args := [_, _]) (rs := [_]) T_ok Tryz.func67 Tryz.call67 rfl rfl (by kernel_rfl) rfl rfl ?_
  repeat (first | exact endA | refine wkP ?_ | refine opB (fun b => ?_) | refine opA (fun a' c' hc1 hc2 => ?_) | (apply GJ.and; exact rfl; intro hg) | (apply GJ.or; exact rfl; intro hg))
  refine word3 (t := [118, 97, 114, 105, 110, 116]) hT h Take.auto Take.auto Take.auto (fun h5 => ?_)
  have hn1 := kw_no (E := listE l) (t := [118, 97, 114, 105, 110, 116]) (s := s)
  generalize kwP (listE l) [118, 97, 114, 105, 110, 116] s = w1 at *
  obtain ⟨b1, v1⟩ := w1
  dsimp only at h5 hn1 hk ⊢
  cases b1
  rotate_left
  · simp only [↓reduceIte] at hk
    unfold lenP at hk
    repeat (first | exact endA | refine wkP ?_ | refine opB (fun b => ?_) | refine opA (fun a' c' hc1 hc2 => ?_) | (apply GJ.and; exact rfl; intro hg) | (apply GJ.or; exact rfl; intro hg))
    refine word3 (t := [108, 101, 110, 105, 101, 110, 116]) hT h5 Take.auto Take.auto Take.auto (fun h6 => ?_)
    generalize kwP (listE l) [108, 101, 110, 105, 101, 110, 116] v1 = w2 at *
    obtain ⟨lb, v2⟩ := w2
    dsimp only at h6 hk ⊢
    repeat (first | exact endA | refine wkP ?_ | refine opB (fun b => ?_) | refine opA (fun a' c' hc1 hc2 => ?_) | (apply GJ.and; exact rfl; intro hg) | (apply GJ.or; exact rfl; intro hg))
    refine rranged_ok (d := { node0 with kind := 2, lenient := lb }) (x := nodeZ) hT h6 ⟨Rs.nil _ 1, Rs.nil _ 1, Rs.nil _ 5, Rs.nil _ 2⟩ ⟨by simp [node0], by simp [node0], by simp [node0], by simp [node0]⟩ Take.auto Take.auto Take.auto (fun ro4 a4 hl4 h4 => ?_)
    have hk2 := hk ro4 a4 hl4 h4
    repeat (first | exact endA | refine wkP ?_ | refine opB (fun b => ?_) | refine opA (fun a' c' hc1 hc2 => ?_) | (apply GJ.and; exact rfl; intro hg) | (apply GJ.or; exact rfl; intro hg))
    exact Wk.outS Sup.auto (.refl _) hk2
  obtain rfl := hn1 rfl
  clear h5
  simp only [Bool.false_eq_true, ↓reduceIte] at hk
  repeat (first | exact endA | refine wkP ?_ | refine opB (fun b => ?_) | refine opA (fun a' c' hc1 hc2 => ?_) | (apply GJ.and; exact rfl; intro hg) | (apply GJ.or; exact rfl; intro hg))
  refine word3 (t := [122, 105, 103, 122, 97, 103]) hT h Take.auto Take.auto Take.auto (fun h5 => ?_)
  have hn1 := kw_no (E := listE l) (t := [122, 105, 103, 122, 97, 103]) (s := s)
  generalize kwP (listE l) [122, 105, 103, 122, 97, 103] s = w1 at *
  obtain ⟨b1, v1⟩ := w1
  dsimp only at h5 hn1 hk ⊢
  cases b1
  rotate_left
  · simp only [↓reduceIte] at hk
    unfold lenP at hk
    repeat (first | exact endA | refine wkP ?_ | refine opB (fun b => ?_) | refine opA (fun a' c' hc1 hc2 => ?_) | (apply GJ.and; exact rfl; intro hg) | (apply GJ.or; exact rfl; intro hg))
    refine word3 (t := [108, 101, 110, 105, 101, 110, 116]) hT h5 Take.auto Take.auto Take.auto (fun h6 => ?_)
    generalize kwP (listE l) [108, 101, 110, 105, 101, 110, 116] v1 = w2 at *
    obtain ⟨lb, v2⟩ := w2
    dsimp only at h6 hk ⊢
    repeat (first | exact endA | refine wkP ?_ | refine opB (fun b => ?_) | refine opA (fun a' c' hc1 hc2 => ?_) | (apply GJ.and; exact rfl; intro hg) | (apply GJ.or; exact rfl; intro hg))
    refine rranged_ok (d := { node0 with kind := 2, zig := true, lenient := lb }) (x := nodeZ) hT h6 ⟨Rs.nil _ 1, Rs.nil _ 1, Rs.nil _ 5, Rs.nil _ 2⟩ ⟨by simp [node0], by simp [node0], by simp [node0], by simp [node0]⟩ Take.auto Take.auto Take.auto (fun ro4 a4 hl4 h4 => ?_)
    have hk2 := hk ro4 a4 hl4 h4
    repeat (first | exact endA | refine wkP ?_ | refine opB (fun b => ?_) | refine opA (fun a' c' hc1 hc2 => ?_) | (apply GJ.and; exact rfl; intro hg) | (apply GJ.or; exact rfl; intro hg))
    exact Wk.outS Sup.auto (.refl _) hk2
  obtain rfl := hn1 rfl
  clear h5
  simp only [Bool.false_eq_true, ↓reduceIte] at hk
  repeat (first | exact endA | refine wkP ?_ | refine opB (fun b => ?_) | refine opA (fun a' c' hc1 hc2 => ?_) | (apply GJ.and; exact rfl; intro hg) | (apply GJ.or; exact rfl; intro hg))
  refine word3 (t := [98, 121, 116, 101, 115]) hT h Take.auto Take.auto Take.auto (fun h5 => ?_)
  have hn1 := kw_no (E := listE l) (t := [98, 121, 116, 101, 115]) (s := s)
  generalize kwP (listE l) [98, 121, 116, 101, 115] s = w1 at *
  obtain ⟨b1, v1⟩ := w1
  dsimp only at h5 hn1 hk ⊢
  cases b1
  rotate_left
  · simp only [↓reduceIte] at hk
    unfold blobP at hk
    repeat (first | exact endA | refine wkP ?_ | refine opB (fun b => ?_) | refine opA (fun a' c' hc1 hc2 => ?_) | (apply GJ.and; exact rfl; intro hg) | (apply GJ.or; exact rfl; intro hg))
    refine rexpr_ok hM hT h5 Take.auto Take.auto Take.auto (fun h6 => ?_)
    generalize exprP numD (listE l) v1 = x at *
    obtain ⟨⟨xr, xm, xa⟩, v2⟩ := x
    dsimp only [exprV] at h6 hk ⊢
    repeat (first | exact endA | refine wkP ?_ | refine opB (fun b => ?_) | refine opA (fun a' c' hc1 hc2 => ?_) | (apply GJ.and; exact rfl; intro hg) | (apply GJ.or; exact rfl; intro hg))
    refine radd_ok (d := { node0 with kind := 4, ereg := xr, emul := xm, eadd := xa }) (x := nodeZ) hT h6 ⟨Rs.nil _ 1, Rs.nil _ 1, Rs.nil _ 5, Rs.nil _ 2⟩ ⟨by simp [node0], by simp [node0], by simp [node0], by simp [node0]⟩ Take.auto Take.auto Take.auto (fun ro4 a4 hl4 h4 => ?_)
    have hk2 := hk ro4 a4 hl4 h4
    repeat (first | exact endA | refine wkP ?_ | refine opB (fun b => ?_) | refine opA (fun a' c' hc1 hc2 => ?_) | (apply GJ.and; exact rfl; intro hg) | (apply GJ.or; exact rfl; intro hg))
    exact Wk.outS Sup.auto (.refl _) hk2
  obtain rfl := hn1 rfl
  clear h5
  simp only [Bool.false_eq_true, ↓reduceIte] at hk
  repeat (first | exact endA | refine wkP ?_ | refine opB (fun b => ?_) | refine opA (fun a' c' hc1 hc2 => ?_) | (apply GJ.and; exact rfl; intro hg) | (apply GJ.or; exact rfl; intro hg))
  refine word3 (t := [116, 105, 109, 101, 115]) hT h Take.auto Take.auto Take.auto (fun h5 => ?_)
  have hn1 := kw_no (E := listE l) (t := [116, 105, 109, 101, 115]) (s := s)
  generalize kwP (listE l) [116, 105, 109, 101, 115] s = w1 at *
  obtain ⟨b1, v1⟩ := w1
  dsimp only at h5 hn1 hk ⊢
  cases b1
  rotate_left
  · simp only [↓reduceIte] at hk
    repeat (first | exact endA | refine wkP ?_ | refine opB (fun b => ?_) | refine opA (fun a' c' hc1 hc2 => ?_) | (apply GJ.and; exact rfl; intro hg) | (apply GJ.or; exact rfl; intro hg))
    refine rcounted_ok (kd := 6) hF hd hM hT h5 Take.auto Take.auto Take.auto (fun ro4 a4 hl4 h4 => ?_)
    have hk2 := hk ro4 a4 hl4 h4
    repeat (first | exact endA | refine wkP ?_ | refine opB (fun b => ?_) | refine opA (fun a' c' hc1 hc2 => ?_) | (apply GJ.and; exact rfl; intro hg) | (apply GJ.or; exact rfl; intro hg))
    exact Wk.outS Sup.auto (.refl _) hk2
  obtain rfl := hn1 rfl
  clear h5
  simp only [Bool.false_eq_true, ↓reduceIte] at hk
  repeat (first | exact endA | refine wkP ?_ | refine opB (fun b => ?_) | refine opA (fun a' c' hc1 hc2 => ?_) | (apply GJ.and; exact rfl; intro hg) | (apply GJ.or; exact rfl; intro hg))
  refine word3 (t := [119, 105, 116, 104, 105, 110]) hT h Take.auto Take.auto Take.auto (fun h5 => ?_)
  have hn1 := kw_no (E := listE l) (t := [119, 105, 116, 104, 105, 110]) (s := s)
  generalize kwP (listE l) [119, 105, 116, 104, 105, 110] s = w1 at *
  obtain ⟨b1, v1⟩ := w1
  dsimp only at h5 hn1 hk ⊢
  cases b1
  rotate_left
  · simp only [↓reduceIte] at hk
    repeat (first | exact endA | refine wkP ?_ | refine opB (fun b => ?_) | refine opA (fun a' c' hc1 hc2 => ?_) | (apply GJ.and; exact rfl; intro hg) | (apply GJ.or; exact rfl; intro hg))
    refine rcounted_ok (kd := 8) hF hd hM hT h5 Take.auto Take.auto Take.auto (fun ro4 a4 hl4 h4 => ?_)
    have hk2 := hk ro4 a4 hl4 h4
    repeat (first | exact endA | refine wkP ?_ | refine opB (fun b => ?_) | refine opA (fun a' c' hc1 hc2 => ?_) | (apply GJ.and; exact rfl; intro hg) | (apply GJ.or; exact rfl; intro hg))
    exact Wk.outS Sup.auto (.refl _) hk2
  obtain rfl := hn1 rfl
  clear h5
  simp only [Bool.false_eq_true, ↓reduceIte] at hk
  repeat (first | exact endA | refine wkP ?_ | refine opB (fun b => ?_) | refine opA (fun a' c' hc1 hc2 => ?_) | (apply GJ.and; exact rfl; intro hg) | (apply GJ.or; exact rfl; intro hg))
  refine word3 (t := [109, 97, 110, 121]) hT h Take.auto Take.auto Take.auto (fun h5 => ?_)
  have hn1 := kw_no (E := listE l) (t := [109, 97, 110, 121]) (s := s)
  generalize kwP (listE l) [109, 97, 110, 121] s = w1 at *
  obtain ⟨b1, v1⟩ := w1
  dsimp only at h5 hn1 hk ⊢
  cases b1
  rotate_left
  · simp only [↓reduceIte] at hk
    unfold manyP at hk
    repeat (first | exact endA | refine wkP ?_ | refine opB (fun b => ?_) | refine opA (fun a' c' hc1 hc2 => ?_) | (apply GJ.and; exact rfl; intro hg) | (apply GJ.or; exact rfl; intro hg))
    refine hF.run hM hT h5 Take.auto Take.auto Take.auto (fun ro2 a2 hl2 h6 => ?_)
    generalize F v1 = k at *
    obtain ⟨kn, s2⟩ := k
    dsimp only at h6 hk ⊢
    repeat (first | exact endA | refine wkP ?_)
    refine OpOk.buildSliceF rfAuto rfAuto rfAuto rfAuto rfAuto (fun ro3 b3 hl3 hb3 => ?_)
    repeat (first | exact endA | refine wkP ?_)
    have h3 := h6.up hl3
    refine radd_ok (d := { node0 with kind := 7, kids := [(kn : Int)] }) (x := { nodeZ with ka := some ⟨b3, 0, none⟩, kc := 1 }) ((hT.up hl2).up hl3) h3 ⟨hb3, Rs.nil _ 1, Rs.nil _ 5, Rs.nil _ 2⟩ ⟨by simp, by simp [node0], by simp [node0], by simp [node0]⟩ Take.auto Take.auto Take.auto (fun ro4 a4 hl4 h4 => ?_)
    have hl4 := (hl2.trans hl3).trans hl4
    have hk2 := hk ro4 a4 hl4 h4
    repeat (first | exact endA | refine wkP ?_ | refine opB (fun b => ?_) | refine opA (fun a' c' hc1 hc2 => ?_) | (apply GJ.and; exact rfl; intro hg) | (apply GJ.or; exact rfl; intro hg))
    exact Wk.outS Sup.auto (.refl _) hk2
  obtain rfl := hn1 rfl
  clear h5
  simp only [Bool.false_eq_true, ↓reduceIte] at hk
  repeat (first | exact endA | refine wkP ?_ | refine opB (fun b => ?_) | refine opA (fun a' c' hc1 hc2 => ?_) | (apply GJ.and; exact rfl; intro hg) | (apply GJ.or; exact rfl; intro hg))
  refine word3 (t := [115, 119, 105, 116, 99, 104]) hT h Take.auto Take.auto Take.auto (fun h5 => ?_)
  have hn1 := kw_no (E := listE l) (t := [115, 119, 105, 116, 99, 104]) (s := s)
  generalize kwP (listE l) [115, 119, 105, 116, 99, 104] s = w1 at *
  obtain ⟨b1, v1⟩ := w1
  dsimp only at h5 hn1 hk ⊢
  cases b1
  rotate_left
  · simp only [↓reduceIte] at hk
    repeat (first | exact endA | refine wkP ?_ | refine opB (fun b => ?_) | refine opA (fun a' c' hc1 hc2 => ?_) | (apply GJ.and; exact rfl; intro hg) | (apply GJ.or; exact rfl; intro hg))
    refine rcases_ok hF hst hd hM hT h5 Take.auto Take.auto Take.auto (fun ro4 a4 hl4 h4 => ?_)
    have hk2 := hk ro4 a4 hl4 h4
    repeat (first | exact endA | refine wkP ?_ | refine opB (fun b => ?_) | refine opA (fun a' c' hc1 hc2 => ?_) | (apply GJ.and; exact rfl; intro hg) | (apply GJ.or; exact rfl; intro hg))
    exact Wk.outS Sup.auto (.refl _) hk2
  obtain rfl := hn1 rfl
  clear h5
  simp only [Bool.false_eq_true, ↓reduceIte] at hk
  repeat (first | exact endA | refine wkP ?_ | refine opB (fun b => ?_) | refine opA (fun a' c' hc1 hc2 => ?_) | (apply GJ.and; exact rfl; intro hg) | (apply GJ.or; exact rfl; intro hg))
  refine word3 (t := [111, 110, 101, 111, 102]) hT h Take.auto Take.auto Take.auto (fun h5 => ?_)
  have hn1 := kw_no (E := listE l) (t := [111, 110, 101, 111, 102]) (s := s)
  generalize kwP (listE l) [111, 110, 101, 111, 102] s = w1 at *
  obtain ⟨b1, v1⟩ := w1
  dsimp only at h5 hn1 hk ⊢
  cases b1
  rotate_left
  · simp only [↓reduceIte] at hk
    repeat (first | exact endA | refine wkP ?_ | refine opB (fun b => ?_) | refine opA (fun a' c' hc1 hc2 => ?_) | (apply GJ.and; exact rfl; intro hg) | (apply GJ.or; exact rfl; intro hg))
    refine rchoice_ok (.inl rfl) hF hst hd hM hT h5 Take.auto Take.auto Take.auto (fun ro4 a4 hl4 h4 => ?_)
    have hk2 := hk ro4 a4 hl4 h4
    repeat (first | exact endA | refine wkP ?_ | refine opB (fun b => ?_) | refine opA (fun a' c' hc1 hc2 => ?_) | (apply GJ.and; exact rfl; intro hg) | (apply GJ.or; exact rfl; intro hg))
    exact Wk.outS Sup.auto (.refl _) hk2
  obtain rfl := hn1 rfl
  clear h5
  simp only [Bool.false_eq_true, ↓reduceIte] at hk
  repeat (first | exact endA | refine wkP ?_ | refine opB (fun b => ?_) | refine opA (fun a' c' hc1 hc2 => ?_) | (apply GJ.and; exact rfl; intro hg) | (apply GJ.or; exact rfl; intro hg))
  refine word3 (t := [99, 104, 97, 105, 110]) hT h Take.auto Take.auto Take.auto (fun h5 => ?_)
  have hn1 := kw_no (E := listE l) (t := [99, 104, 97, 105, 110]) (s := s)
  generalize kwP (listE l) [99, 104, 97, 105, 110] s = w1 at *
  obtain ⟨b1, v1⟩ := w1
  dsimp only at h5 hn1 hk ⊢
  cases b1
  rotate_left
  · simp only [↓reduceIte] at hk
    repeat (first | exact endA | refine wkP ?_ | refine opB (fun b => ?_) | refine opA (fun a' c' hc1 hc2 => ?_) | (apply GJ.and; exact rfl; intro hg) | (apply GJ.or; exact rfl; intro hg))
    refine rchoice_ok (.inr rfl) hF hst hd hM hT h5 Take.auto Take.auto Take.auto (fun ro4 a4 hl4 h4 => ?_)
    have hk2 := hk ro4 a4 hl4 h4
    repeat (first | exact endA | refine wkP ?_ | refine opB (fun b => ?_) | refine opA (fun a' c' hc1 hc2 => ?_) | (apply GJ.and; exact rfl; intro hg) | (apply GJ.or; exact rfl; intro hg))
    exact Wk.outS Sup.auto (.refl _) hk2
  obtain rfl := hn1 rfl
  clear h5
  simp only [Bool.false_eq_true, ↓reduceIte] at hk
  repeat (first | exact endA | refine wkP ?_ | refine opB (fun b => ?_) | refine opA (fun a' c' hc1 hc2 => ?_) | (apply GJ.and; exact rfl; intro hg) | (apply GJ.or; exact rfl; intro hg))
  refine word3 (t := [101, 109, 112, 116, 121]) hT h Take.auto Take.auto Take.auto (fun h5 => ?_)
  have hn1 := kw_no (E := listE l) (t := [101, 109, 112, 116, 121]) (s := s)
  generalize kwP (listE l) [101, 109, 112, 116, 121] s = w1 at *
  obtain ⟨b1, v1⟩ := w1
  dsimp only at h5 hn1 hk ⊢
  cases b1
  rotate_left
  · simp only [↓reduceIte] at hk
    repeat (first | exact endA | refine wkP ?_ | refine opB (fun b => ?_) | refine opA (fun a' c' hc1 hc2 => ?_) | (apply GJ.and; exact rfl; intro hg) | (apply GJ.or; exact rfl; intro hg))
    refine radd_ok (d := { node0 with kind := 12 }) (x := nodeZ) hT h5 ⟨Rs.nil _ 1, Rs.nil _ 1, Rs.nil _ 5, Rs.nil _ 2⟩ ⟨by simp [node0], by simp [node0], by simp [node0], by simp [node0]⟩ Take.auto Take.auto Take.auto (fun ro4 a4 hl4 h4 => ?_)
    have hk2 := hk ro4 a4 hl4 h4
    repeat (first | exact endA | refine wkP ?_ | refine opB (fun b => ?_) | refine opA (fun a' c' hc1 hc2 => ?_) | (apply GJ.and; exact rfl; intro hg) | (apply GJ.or; exact rfl; intro hg))
    exact Wk.outS Sup.auto (.refl _) hk2
  obtain rfl := hn1 rfl
  clear h5
  simp only [Bool.false_eq_true, ↓reduceIte] at hk
  unfold useP at hk
  repeat (first | exact endA | refine wkP ?_ | refine opB (fun b => ?_) | refine opA (fun a' c' hc1 hc2 => ?_) | (apply GJ.and; exact rfl; intro hg) | (apply GJ.or; exact rfl; intro hg))
  refine name3 hM hT h Take.auto Take.auto Take.auto (fun h1 => ?_)
  generalize nameP (listE l) s = x at *
  obtain ⟨xn, s1⟩ := x
  dsimp only at h1 hk ⊢
  repeat (first | exact endA | refine wkP ?_ | refine opB (fun b => ?_) | refine opA (fun a' c' hc1 hc2 => ?_) | (apply GJ.and; exact rfl; intro hg) | (apply GJ.or; exact rfl; intro hg))
  refine radd_ok (d := { node0 with kind := 13, text := xn }) (x := nodeZ) hT h1 ⟨Rs.nil _ 1, Rs.nil _ 1, Rs.nil _ 5, Rs.nil _ 2⟩ ⟨by simp [node0], by simp [node0], by simp [node0], by simp [node0]⟩ Take.auto Take.auto Take.auto (fun ro4 a4 hl4 h4 => ?_)
  have hk2 := hk ro4 a4 hl4 h4
  repeat (first | exact endA | refine wkP ?_ | refine opB (fun b => ?_) | refine opA (fun a' c' hc1 hc2 => ?_) | (apply GJ.and; exact rfl; intro hg) | (apply GJ.or; exact rfl; intro hg))
  exact Wk.outS Sup.auto (.refl _) hk2
end
end Go.Proofs.YtepdapdekaiioaaGreatDoor
end
section
/- Contracts of the reader: a type. -/
namespace Go.Proofs.YtepdapdekaiioaaGreatDoor
open Go Go.E
set_option linter.unusedVariables false
set_option linter.unusedSectionVars false
set_option linter.unusedSimpArgs false
set_option maxRecDepth 10000
section
variable {ro : Ro} {own q q1 q2 : Chs} {K : Value → Ro → Chs → Prop} {l : List TokD} {s : PS} {a : SpecA} {la : Option Addr} {lc r : Nat} {deep : Nat} {F : PS → Nat × PS}
theorem RdOk.stepW (hT : ToksOk ro la lc l) (h : RdOk ro l s a) (hk : (peekP (listE l) s).kind ≠ 5) : RdOk ro l (stepP (wrongP 5 s)) a := by
  have h2 := h.step hT hk
  unfold wrongP
  split
  · exact ⟨h2.at', h.at', (by decide : 5 ≤ 1000), h.build, h.sm, h.nn, h.nd⟩
  · exact h2
theorem sticky_kindD (d : Nat) (s : PS) (h : s.code ≠ 0) : (kindP numD (listE l) d s).2.code ≠ 0 :=
  (InP.kind (wideP := numD) (C := sticky_clo l) d s ⟨h⟩).get
set_option maxHeartbeats 8000000 in
theorem rkind0_ok : KOk la lc r l 25 (kindP numD (listE l) 0) := by
  refine ⟨fun {ro own q q1 q2 K s a} hM hT h t1 t2 t3 hk => ?_⟩
  refine CallOk.perm (three t1 t2 t3) ?_
  unfold kindP at hk
  dsimp only at hk
  refine CallOk.intro (args := [_, _]) (rs := [_]) T_ok Tryz.func38 Tryz.call38 rfl rfl (by kernel_rfl) rfl rfl ?_
  repeat (first | exact endA | refine wkP ?_ | refine opB (fun b => ?_) | refine opA (fun a' c' hc1 hc2 => ?_) | (apply GJ.and; exact rfl; intro hg) | (apply GJ.or; exact rfl; intro hg))
  refine wrong3 (e := 6) (by decide) (by decide) hT h Take.auto Take.auto Take.auto (fun h1 => ?_)
  have hc : (wrongP 6 s).code ≠ 0 := by
    unfold wrongP
    split
    · exact (by decide : (6 : Nat) ≠ 0)
    · assumption
  generalize wrongP 6 s = s1 at *
  repeat (first | exact endA | refine wkP ?_ | refine opB (fun b => ?_) | refine opA (fun a' c' hc1 hc2 => ?_) | (apply GJ.and; exact rfl; intro hg) | (apply GJ.or; exact rfl; intro hg))
  refine rok_ok h1 Take.auto ?_
  rw [decide_eq_false hc]
  have hk2 := hk ro a (Le.refl _) h1
  repeat (first | exact endA | refine wkP ?_ | refine opB (fun b => ?_) | refine opA (fun a' c' hc1 hc2 => ?_) | (apply GJ.and; exact rfl; intro hg) | (apply GJ.or; exact rfl; intro hg))
  exact Wk.outS Sup.auto (.refl _) hk2
set_option maxHeartbeats 8000000 in
theorem rkind1_ok {d : Nat} (hd : d ≤ 24) (hF : KOk la lc r l (((24 - d : Nat) : Int) + 1) (kindP numD (listE l) d)) : KOk la lc r l ((24 - d : Nat) : Int) (kindP numD (listE l) (d + 1)) := by
  refine ⟨fun {ro own q q1 q2 K s a} hM hT h t1 t2 t3 hk => ?_⟩
  refine CallOk.perm (three t1 t2 t3) ?_
  have hst := sticky_kindD (l := l) d
  unfold kindP at hk
  generalize kindP numD (listE l) d = F at *
  obtain ⟨deep, hdeep⟩ : ∃ k, k = 24 - d := ⟨_, rfl⟩
  rw [← hdeep] at hF ⊢
  have hd24 : deep ≤ 24 := by omega
  clear hdeep
  refine CallOk.intro (args := [_, _]) (rs := [_]) T_ok Tryz.func38 Tryz.call38 rfl rfl (by kernel_rfl) rfl rfl ?_
  repeat (first | exact endA | refine wkP ?_ | refine opB (fun b => ?_) | refine opA (fun a' c' hc1 hc2 => ?_) | (apply GJ.and; exact rfl; intro hg) | (apply GJ.or; exact rfl; intro hg))
  rw [decide_eq_false (by omega : ¬ (deep : Int) > 24)]
  repeat (first | exact endA | refine wkP ?_ | refine opB (fun b => ?_) | refine opA (fun a' c' hc1 hc2 => ?_) | (apply GJ.and; exact rfl; intro hg) | (apply GJ.or; exact rfl; intro hg))
  refine rok_ok h Take.auto ?_
  by_cases hc : s.code = 0
  · rw [if_neg (fun h => h hc)] at hk
    rw [decide_eq_true hc]
    repeat (first | exact endA | refine wkP ?_ | refine opB (fun b => ?_) | refine opA (fun a' c' hc1 hc2 => ?_) | (apply GJ.and; exact rfl; intro hg) | (apply GJ.or; exact rfl; intro hg))
    refine rpeek_ok hT h Take.auto ?_
    have htx := hT.text _ (peekT_mem hT h)
    repeat (first | exact endA | refine wkP ?_ | refine opB (fun b => ?_) | refine opA (fun a' c' hc1 hc2 => ?_) | (apply GJ.and; exact rfl; intro hg) | (apply GJ.or; exact rfl; intro hg))
    by_cases h3 : (peekP (listE l) s).kind = 3
    · rw [if_pos h3] at hk
      have hl2' := hT.le
      by_cases ht : (peekP (listE l) s).text = []
      · rw [if_pos ht] at hk
        repeat (first | exact endA | refine wkP ?_ | refine opB (fun b => ?_) | refine opA (fun a' c' hc1 hc2 => ?_) | (apply GJ.and; exact rfl; intro hg) | (apply GJ.or; exact rfl; intro hg))
        refine wrong3 (e := 5) (by decide) (by decide) hT h Take.auto Take.auto Take.auto (fun h1 => ?_)
        have h2 := h.stepW hT (by omega)
        generalize wrongP 5 s = s1 at *
        have hat : s1.at' + 1 < l.length := h2.at'
        unfold rdC readV
        repeat (first | exact endA | refine wkP ?_ | refine opB (fun b => ?_) | refine opA (fun a' c' hc1 hc2 => ?_) | (apply GJ.and; exact rfl; intro hg) | (apply GJ.or; exact rfl; intro hg))
        rw [← stepC]
        repeat (first | exact endA | refine wkP ?_ | refine opB (fun b => ?_) | refine opA (fun a' c' hc1 hc2 => ?_) | (apply GJ.and; exact rfl; intro hg) | (apply GJ.or; exact rfl; intro hg))
        refine radd_ok (d := { node0 with kind := 3, text := _ }) (x := nodeZ) (s := stepP s1) hT h2 ⟨Rs.nil _ 1, Rs.nil _ 1, Rs.nil _ 5, Rs.nil _ 2⟩ ⟨by simp [node0], by simp [node0], by simp [node0], by simp [node0]⟩ Take.auto Take.auto Take.auto (fun ro4 a4 hl4 h4 => ?_)
        have hk2 := hk ro4 a4 hl4 h4
        repeat (first | exact endA | refine wkP ?_ | refine opB (fun b => ?_) | refine opA (fun a' c' hc1 hc2 => ?_) | (apply GJ.and; exact rfl; intro hg) | (apply GJ.or; exact rfl; intro hg))
        exact Wk.outS Sup.auto (.refl _) hk2
      · rw [if_neg ht] at hk
        have h2 := h.step hT (by omega)
        have hat : s.at' + 1 < l.length := h2.at'
        unfold rdC readV
        repeat (first | exact endA | refine wkP ?_ | refine opB (fun b => ?_) | refine opA (fun a' c' hc1 hc2 => ?_) | (apply GJ.and; exact rfl; intro hg) | (apply GJ.or; exact rfl; intro hg))
        rw [← stepC]
        repeat (first | exact endA | refine wkP ?_ | refine opB (fun b => ?_) | refine opA (fun a' c' hc1 hc2 => ?_) | (apply GJ.and; exact rfl; intro hg) | (apply GJ.or; exact rfl; intro hg))
        refine radd_ok (d := { node0 with kind := 3, text := _ }) (x := nodeZ) (s := stepP s) hT h2 ⟨Rs.nil _ 1, Rs.nil _ 1, Rs.nil _ 5, Rs.nil _ 2⟩ ⟨by simp [node0], by simp [node0], by simp [node0], by simp [node0]⟩ Take.auto Take.auto Take.auto (fun ro4 a4 hl4 h4 => ?_)
        have hk2 := hk ro4 a4 hl4 h4
        repeat (first | exact endA | refine wkP ?_ | refine opB (fun b => ?_) | refine opA (fun a' c' hc1 hc2 => ?_) | (apply GJ.and; exact rfl; intro hg) | (apply GJ.or; exact rfl; intro hg))
        exact Wk.outS Sup.auto (.refl _) hk2
    · rw [if_neg h3] at hk
      repeat (first | exact endA | refine wkP ?_ | refine opB (fun b => ?_) | refine opA (fun a' c' hc1 hc2 => ?_) | (apply GJ.and; exact rfl; intro hg) | (apply GJ.or; exact rfl; intro hg))
      refine ris_ok (k := 4) (t := [123]) hT h Take.auto ?_
      by_cases hi : isP (listE l) 4 [123] s = true
      · rw [if_pos hi] at hk
        rw [hi]
        repeat (first | exact endA | refine wkP ?_ | refine opB (fun b => ?_) | refine opA (fun a' c' hc1 hc2 => ?_) | (apply GJ.and; exact rfl; intro hg) | (apply GJ.or; exact rfl; intro hg))
        refine rrecord_ok hF hst (by omega) hM hT h Take.auto Take.auto Take.auto (fun ro4 a4 hl4 h4 => ?_)
        have hk2 := hk ro4 a4 hl4 h4
        repeat (first | exact endA | refine wkP ?_ | refine opB (fun b => ?_) | refine opA (fun a' c' hc1 hc2 => ?_) | (apply GJ.and; exact rfl; intro hg) | (apply GJ.or; exact rfl; intro hg))
        exact Wk.outS Sup.auto (.refl _) hk2
      · rw [if_neg hi] at hk
        rw [Bool.eq_false_iff.2 hi]
        repeat (first | exact endA | refine wkP ?_ | refine opB (fun b => ?_) | refine opA (fun a' c' hc1 hc2 => ?_) | (apply GJ.and; exact rfl; intro hg) | (apply GJ.or; exact rfl; intro hg))
        by_cases h1 : (peekP (listE l) s).kind = 1
        · rw [if_neg (fun h => h h1)] at hk
          repeat (first | exact endA | refine wkP ?_ | refine opB (fun b => ?_) | refine opA (fun a' c' hc1 hc2 => ?_) | (apply GJ.and; exact rfl; intro hg) | (apply GJ.or; exact rfl; intro hg))
          refine rfixed_ok htx ?_
          generalize hfx : fixedD (peekP (listE l) s).text = fx at *
          cases fx with
          | none =>
            dsimp only at hk
            dsimp only [fixV]
            repeat (first | exact endA | refine wkP ?_ | refine opB (fun b => ?_) | refine opA (fun a' c' hc1 hc2 => ?_) | (apply GJ.and; exact rfl; intro hg) | (apply GJ.or; exact rfl; intro hg))
            refine rnamed_ok hF hst (by omega) hM hT h Take.auto Take.auto Take.auto (fun ro4 a4 hl4 h4 => ?_)
            have hk2 := hk ro4 a4 hl4 h4
            repeat (first | exact endA | refine wkP ?_ | refine opB (fun b => ?_) | refine opA (fun a' c' hc1 hc2 => ?_) | (apply GJ.and; exact rfl; intro hg) | (apply GJ.or; exact rfl; intro hg))
            exact Wk.outS Sup.auto (.refl _) hk2
          | some x =>
            obtain ⟨fw, fb⟩ := x
            dsimp only at hk
            dsimp only [fixV]
            have hl2' := hT.le
            have h2 := h.step hT (by omega)
            have hat : s.at' + 1 < l.length := h2.at'
            unfold rdC readV
            repeat (first | exact endA | refine wkP ?_ | refine opB (fun b => ?_) | refine opA (fun a' c' hc1 hc2 => ?_) | (apply GJ.and; exact rfl; intro hg) | (apply GJ.or; exact rfl; intro hg))
            rw [← stepC]
            refine rranged_ok (d := { node0 with kind := 1, width := (fw : Int), little := fb }) (x := nodeZ) (s := stepP s) hT h2 ⟨Rs.nil _ 1, Rs.nil _ 1, Rs.nil _ 5, Rs.nil _ 2⟩ ⟨by simp [node0], by simp [node0], by simp [node0], by simp [node0]⟩ Take.auto Take.auto Take.auto (fun ro4 a4 hl4 h4 => ?_)
            have hk2 := hk ro4 a4 hl4 h4
            repeat (first | exact endA | refine wkP ?_ | refine opB (fun b => ?_) | refine opA (fun a' c' hc1 hc2 => ?_) | (apply GJ.and; exact rfl; intro hg) | (apply GJ.or; exact rfl; intro hg))
            exact Wk.outS Sup.auto (.refl _) hk2
        · rw [if_pos h1] at hk
          repeat (first | exact endA | refine wkP ?_ | refine opB (fun b => ?_) | refine opA (fun a' c' hc1 hc2 => ?_) | (apply GJ.and; exact rfl; intro hg) | (apply GJ.or; exact rfl; intro hg))
          refine wrong3 (e := 5) (by decide) (by decide) hT h Take.auto Take.auto Take.auto (fun h5 => ?_)
          have hk2 := hk ro a (Le.refl _) h5
          repeat (first | exact endA | refine wkP ?_ | refine opB (fun b => ?_) | refine opA (fun a' c' hc1 hc2 => ?_) | (apply GJ.and; exact rfl; intro hg) | (apply GJ.or; exact rfl; intro hg))
          exact Wk.outS Sup.auto (.refl _) hk2
  · rw [if_pos hc] at hk
    rw [decide_eq_false hc]
    have hk2 := hk ro a (Le.refl _) h
    repeat (first | exact endA | refine wkP ?_ | refine opB (fun b => ?_) | refine opA (fun a' c' hc1 hc2 => ?_) | (apply GJ.and; exact rfl; intro hg) | (apply GJ.or; exact rfl; intro hg))
    exact Wk.outS Sup.auto (.refl _) hk2
end
end Go.Proofs.YtepdapdekaiioaaGreatDoor
end
section
/- Contracts of parse: a type with a name. -/
namespace Go.Proofs.YtepdapdekaiioaaGreatDoor
open Go Go.E
set_option linter.unusedVariables false
set_option linter.unusedSectionVars false
set_option linter.unusedSimpArgs false
set_option maxRecDepth 10000
theorem rkind_ok {la : Option Addr} {lc r : Nat} {l : List TokD} : ∀ d : Nat, d ≤ 25 → KOk la lc r l ((25 : Int) - (d : Int)) (kindP numD (listE l) d)
  | 0, _ => rkind0_ok
  | d + 1, h => by
    have h2 := rkind_ok (la := la) (lc := lc) (r := r) (l := l) d (by omega)
    have h3 := rkind1_ok (la := la) (lc := lc) (r := r) (l := l) (d := d) (by omega) (by
      rw [show ((24 - d : Nat) : Int) + 1 = (25 : Int) - (d : Int) by omega]; exact h2)
    rw [show (25 : Int) - ((d + 1 : Nat) : Int) = ((24 - d : Nat) : Int) by omega]
    exact h3
theorem rkind25_ok {la : Option Addr} {lc r : Nat} {l : List TokD} : KOk la lc r l 0 (kindP numD (listE l) 25) := rkind_ok 25 (Nat.le_refl _)
section
variable {ro : Ro} {own q q1 q2 : Chs} {K : Value → Ro → Chs → Prop} {l : List TokD} {s : PS} {a : SpecA} {la : Option Addr} {lc r : Nat}
set_option maxHeartbeats 4000000 in
theorem bnameFull_ok {nm : List UInt8} {t : Int} (hn : s.defs.length = 64) (hk : K (.int .i64 2) ro (rdC r la lc l s a :: q)) :
    CallOk Tryz.prog 17 #[.pointer (some ⟨r, 0 + 2, none⟩), str nm, .int .i64 t] ro (rdC r la lc l s a :: q) K := by
  unfold rdC readV at hk ⊢
  refine CallOk.intro (args := [_, _, _]) (rs := [_]) T_ok Tryz.func17 Tryz.call17 rfl rfl (by kernel_rfl) rfl rfl ?_
  repeat (first | exact endA | refine wkP ?_ | refine opB (fun b => ?_) | refine opA (fun a' c' hc1 hc2 => ?_) | (apply GJ.and; exact rfl; intro hg) | (apply GJ.or; exact rfl; intro hg))
  exact Wk.outS Sup.auto (.refl _) hk
set_option maxHeartbeats 4000000 in
theorem bnameAt_ok {d : DefD} (h : RdOk ro l s a) (hn : s.defs.length < 64)
    (hk : ∀ a', RdOk ro l { s with defs := s.defs ++ [d] } a' → K (.int .i64 0) ro (rdC r la lc l { s with defs := s.defs ++ [d] } a' :: ndC { s with defs := s.defs ++ [d] } a' :: dfC { s with defs := s.defs ++ [d] } a' :: q)) :
    CallOk Tryz.prog 17 #[.pointer (some ⟨r, 0 + 2, none⟩), str d.name, .int .i64 d.type] ro (rdC r la lc l s a :: ndC s a :: dfC s a :: q) K := by
  have hb := h.build
  have hdc := hb.dc
  unfold rdC readV
  refine CallOk.intro (args := [_, _, _]) (rs := [_]) T_ok Tryz.func17 Tryz.call17 rfl rfl (by kernel_rfl) rfl rfl ?_
  repeat (first | exact endA | refine wkG ?_ | refine opB (fun b => ?_) | refine opA (fun a' c' hc1 hc2 => ?_) | (show GJ _ _ _ _ _ _ _; first | (apply GJ.and; exact rfl; intro hg) | (apply GJ.or; exact rfl; intro hg) | refine GJ.t omAuto ?_ | refine GJ.f omAuto ?_ | refine GJ.ft omAuto ?_ | refine GJ.ff omAuto ?_))
  have e1 : (s.defs ++ [d]).length = s.defs.length + 1 := by simp
  have e2 : defsV s.defs ++ flat [.agg #[str d.name, .int .i64 d.type]] = defsV (s.defs ++ [d]) := by simp [defsV, defV, flat, Value.cells]
  have hk2 := hk ⟨a.na, a.nc, a', c', a.xs⟩ ⟨h.at', h.fat, h.code, ⟨hb.len, hb.each, hb.nc, ⟨by dsimp only; rw [e1]; exact hc1, hc2⟩⟩, h.sm, h.nn, by dsimp only; rw [e1]; omega⟩
  unfold rdC readV ndC dfC at hk2
  dsimp only at hk2
  rw [e1] at hk2
  rw [e2]
  exact Wk.outS Sup.auto (.refl _) hk2
set_option maxHeartbeats 4000000 in
theorem rdef_ok (hM : MaxOk ro) (hT : ToksOk ro la lc l) (h : RdOk ro l s a) (t1 : Take own (rdC r la lc l s a) q1) (t2 : Take q1 (ndC s a) q2) (t3 : Take q2 (dfC s a) q)
    (hk : ∀ ro' a', Le ro ro' → RdOk ro' l (defP numD (listE l) s) a' → K (.tuple #[]) ro' (rdC r la lc l (defP numD (listE l) s) a' :: ndC (defP numD (listE l) s) a' :: dfC (defP numD (listE l) s) a' :: q)) :
    CallOk Tryz.prog 23 #[ptr' r] ro own K := by
  refine CallOk.perm (three t1 t2 t3) ?_
  have hlim : (listE l).limD = 64 := rfl
  unfold defP at hk
  dsimp only at hk
  rw [hlim] at hk
  refine CallOk.intro (args := [_]) (rs := []) T_ok Tryz.func23 Tryz.call23 rfl rfl (by kernel_rfl) rfl rfl ?_
  repeat (first | exact endA | refine wkP ?_ | refine opB (fun b => ?_) | refine opA (fun a' c' hc1 hc2 => ?_) | (apply GJ.and; exact rfl; intro hg) | (apply GJ.or; exact rfl; intro hg))
  refine name3 hM hT h Take.auto Take.auto Take.auto (fun h1 => ?_)
  generalize nameP (listE l) s = x at *
  obtain ⟨xn, s1⟩ := x
  dsimp only at h1 hk ⊢
  repeat (first | exact endA | refine wkP ?_ | refine opB (fun b => ?_) | refine opA (fun a' c' hc1 hc2 => ?_) | (apply GJ.and; exact rfl; intro hg) | (apply GJ.or; exact rfl; intro hg))
  refine must3 (t := [61]) hT h1 Take.auto Take.auto Take.auto (fun h2 => ?_)
  generalize mustP (listE l) [61] s1 = s2 at *
  repeat (first | exact endA | refine wkP ?_ | refine opB (fun b => ?_) | refine opA (fun a' c' hc1 hc2 => ?_) | (apply GJ.and; exact rfl; intro hg) | (apply GJ.or; exact rfl; intro hg))
  refine rkind25_ok.run hM hT h2 Take.auto Take.auto Take.auto (fun ro2 a2 hl2 h3 => ?_)
  generalize kindP numD (listE l) 25 s2 = k at *
  obtain ⟨kn, s3⟩ := k
  dsimp only at h3 hk ⊢
  have hM2 := hM.le hl2
  have hT2 := hT.up hl2
  repeat (first | exact endA | refine wkP ?_ | refine opB (fun b => ?_) | refine opA (fun a' c' hc1 hc2 => ?_) | (apply GJ.and; exact rfl; intro hg) | (apply GJ.or; exact rfl; intro hg))
  refine must3 (t := [59]) hT2 h3 Take.auto Take.auto Take.auto (fun h4 => ?_)
  generalize mustP (listE l) [59] s3 = s4 at *
  repeat (first | exact endA | refine wkP ?_ | refine opB (fun b => ?_) | refine opA (fun a' c' hc1 hc2 => ?_) | (apply GJ.and; exact rfl; intro hg) | (apply GJ.or; exact rfl; intro hg))
  refine rok_ok h4 Take.auto ?_
  by_cases hc : s4.code = 0
  · rw [if_neg (fun h => h hc)] at hk
    rw [decide_eq_true hc]
    repeat (first | exact endA | refine wkP ?_ | refine opB (fun b => ?_) | refine opA (fun a' c' hc1 hc2 => ?_) | (apply GJ.and; exact rfl; intro hg) | (apply GJ.or; exact rfl; intro hg))
    by_cases hn : s4.defs.length = 64
    · rw [if_pos hn] at hk
      refine CallOk.perm (three (c1 := rdC r la lc l s4 a2) (c2 := ndC s4 a2) (c3 := dfC s4 a2) Take.auto Take.auto Take.auto) ?_
      refine bnameFull_ok hn ?_
      repeat (first | exact endA | refine wkP ?_ | refine opB (fun b => ?_) | refine opA (fun a' c' hc1 hc2 => ?_) | (apply GJ.and; exact rfl; intro hg) | (apply GJ.or; exact rfl; intro hg))
      refine wrong3 (e := 2) (by decide) (by decide) hT2 h4 Take.auto Take.auto Take.auto (fun h5 => ?_)
      have hk2 := hk ro2 a2 hl2 h5
      repeat (first | exact endA | refine wkP ?_ | refine opB (fun b => ?_) | refine opA (fun a' c' hc1 hc2 => ?_) | (apply GJ.and; exact rfl; intro hg) | (apply GJ.or; exact rfl; intro hg))
      exact Wk.outS Sup.auto (.refl _) hk2
    · rw [if_neg hn] at hk
      have h64 := h4.nd
      refine CallOk.perm (three (c1 := rdC r la lc l s4 a2) (c2 := ndC s4 a2) (c3 := dfC s4 a2) Take.auto Take.auto Take.auto) ?_
      refine bnameAt_ok (d := ⟨xn, (kn : Int)⟩) h4 (by omega) (fun a5 h5 => ?_)
      have hk2 := hk ro2 a5 hl2 h5
      repeat (first | exact endA | refine wkP ?_ | refine opB (fun b => ?_) | refine opA (fun a' c' hc1 hc2 => ?_) | (apply GJ.and; exact rfl; intro hg) | (apply GJ.or; exact rfl; intro hg))
      exact Wk.outS Sup.auto (.refl _) hk2
  · rw [if_pos hc] at hk
    rw [decide_eq_false hc]
    have hk2 := hk ro2 a2 hl2 h4
    repeat (first | exact endA | refine wkP ?_ | refine opB (fun b => ?_) | refine opA (fun a' c' hc1 hc2 => ?_) | (apply GJ.and; exact rfl; intro hg) | (apply GJ.or; exact rfl; intro hg))
    exact Wk.outS Sup.auto (.refl _) hk2
end
end Go.Proofs.YtepdapdekaiioaaGreatDoor
end
section
/- Contracts of parse: Parse. -/
namespace Go.Proofs.YtepdapdekaiioaaGreatDoor
open Go Go.E
set_option linter.unusedVariables false
set_option linter.unusedSectionVars false
set_option linter.unusedSimpArgs false
set_option maxRecDepth 10000
/-- A scanned text's tokens, the last one of which is the end. -/
theorem front_five {l : List UInt8} {k : Nat} {w : List UInt8} {n : Nat} (h : frontD l = (k, w, n, 0)) : k ≠ 5 ∧ w.length ≤ l.length := by
  have hf := frontOf h
  refine ⟨hf.five, ?_⟩
  have h1 := congrArg List.length hf.app
  rw [List.length_append, ← hf.len, List.length_drop] at h1
  have h2 : w.length ≤ (showD k w).length := by
    unfold showD
    split <;> simp <;> omega
  have := hf.len
  omega
theorem whole_end : ∀ (ts : List TokD) (a : Nat) (l : List UInt8), WholeD a l ts → (0 < ts.length ∧ ∀ (i : Nat) (t : TokD), ts[i]? = some t → (t.kind = 5 ↔ i + 1 = ts.length)) ∧ (∀ t ∈ ts, t.text.length ≤ l.length) ∧ ∀ t, ts.getLast? = some t → t.a = a + l.length
  | [], a, l, h => h.elim
  | t :: ts, a, l, ⟨ha, h⟩ => by
    rcases h with ⟨h5, ht, rfl, hd⟩ | ⟨n, hd, hf, hw⟩
    · have hg : l.length ≤ gapD false l := by
        have := congrArg List.length hd
        rw [List.length_drop, List.length_nil] at this
        omega
      refine ⟨⟨Nat.zero_lt_one, fun i u hu => ?_⟩, fun u hu => ?_, fun u hu => ?_⟩
      · cases i with
        | zero => simp at hu; subst hu; exact ⟨fun _ => rfl, fun _ => h5⟩
        | succ i => simp at hu
      · simp at hu; subst hu; rw [ht]; exact Nat.zero_le _
      · simp at hu; subst hu
        have := gapD_le l false
        omega
    · obtain ⟨⟨g1, g2⟩, g3, g4⟩ := whole_end ts _ _ hw
      obtain ⟨k5, kw⟩ := front_five hf
      have hF := frontOf hf
      have hn : n ≤ (l.drop (gapD false l)).length := by
        have h1 := congrArg List.length hF.app
        rw [List.length_append, ← hF.len, List.length_drop] at h1
        have := hF.len
        omega
      have hgl := gapD_le l false
      rw [List.length_drop] at hn kw
      have kw : t.text.length ≤ l.length - gapD false l := kw
      refine ⟨⟨by simp, fun i u hu => ?_⟩, fun u hu => ?_, fun u hu => ?_⟩
      · cases i with
        | zero => simp at hu; subst hu; exact ⟨fun h => absurd h k5, fun h => by simp only [List.length_cons] at h; omega⟩
        | succ i =>
          simp at hu
          have := g2 i u hu
          simp
          exact this
      · rcases List.mem_cons.1 hu with rfl | hu
        · omega
        · have := g3 u hu
          simp only [List.length_drop] at this
          omega
      · have : ts ≠ [] := by intro e; subst e; simp at g1
        rw [List.getLast?_cons] at hu
        obtain ⟨v, hv⟩ : ∃ v, ts.getLast? = some v := by
          cases e : ts.getLast? with
          | none => exact absurd (List.getLast?_eq_none_iff.1 e) this
          | some v => exact ⟨v, rfl⟩
        rw [hv] at hu
        simp at hu
        subst hu
        have := g4 v hv
        simp only [List.length_drop] at this
        omega
theorem scan_end {tx : List UInt8} {l : List TokD} {a : Nat} (h : scanD tx = (l, a, 0)) : EndL l ∧ (∀ t ∈ l, t.text.length ≤ tx.length) ∧ tx.length ≤ 65536 ∧ ∀ t, l.getLast? = some t → t.a = tx.length := by
  unfold scanD at h
  split at h
  · cases h
  · obtain ⟨ts, e, hw⟩ := scan_whole _ _ _ _ _ _ (Nat.lt_succ_self _) h
    rw [List.nil_append] at e
    subst e
    obtain ⟨g1, g2, g3⟩ := whole_end _ _ _ hw
    exact ⟨⟨g1.1, g1.2⟩, g2, by omega, fun t ht => by rw [g3 t ht]; omega⟩
/-- What a text is read as: a specification and no fault, or what is wrong, and where. -/
def parseD (tx : List UInt8) : SpecD × Int × Nat :=
  if (scanD tx).2.2 ≠ 0 then (⟨[], []⟩, ((scanD tx).2.2 : Int), (scanD tx).2.1) else
  ((readP numD (scanD tx).1).1, (readP numD (scanD tx).1).2.1, if (readP numD (scanD tx).1).2.1 = 0 then 0 else match (readP numD (scanD tx).1).2.2 with
    | some i => ((scanD tx).1[i]?.getD endT).a
    | none => tx.length)
theorem def_code {l : List TokD} {s : PS} (h : (defP numD (listE l) s).code = 0) : (defP numD (listE l) s).defs.length = s.defs.length + 1 := by
  have hkeep : (mustP (listE l) [59] (kindP numD (listE l) 25 (mustP (listE l) [61] (nameP (listE l) s).2)).2).defs = s.defs := by
    have C : Clo (listE l) (fun z => z.defs = s.defs) := ⟨fun z e _ h => by unfold wrongP; split <;> exact h, fun z h _ => h, fun z e _ h => by unfold wrongP; split <;> exact h, fun z n h => h⟩
    have h0 : InP (fun z => z.defs = s.defs) (listE l) s := ⟨rfl⟩
    exact (InP.must (InP.kind (wideP := numD) 25 _ (InP.must (InP.name h0) [61])) [59]).get
  unfold defP at h ⊢
  dsimp only at h ⊢
  generalize mustP (listE l) [59] (kindP numD (listE l) 25 (mustP (listE l) [61] (nameP (listE l) s).2)).2 = s1 at *
  split at h
  · exact absurd h ‹_›
  rename_i h1
  rw [if_neg h1]
  split at h
  · unfold wrongP at h
    rw [if_pos (Decidable.of_not_not h1)] at h
    cases h
  · rename_i h2
    rw [if_neg h2]
    simp [hkeep]
section
variable {ro : Ro} {own q q1 q2 : Chs} {K : Value → Ro → Chs → Prop} {l : List TokD} {s : PS} {a : SpecA} {la : Option Addr} {lc r : Nat}
theorem scan_last {tx : List UInt8} (hS : SpOk ro) (hl : tx.length ≤ 100000)
    (hk : ∀ ro' l a code a' c', Le ro ro' → scanD tx = (l, a, code) → l.length ≤ 8193 → code ≤ 1000 → a ≤ tx.length → Rs ro' a' l.length c' 3 (toksV l) → K (.tuple #[.slice a' l.length c', faultV code a]) ro' own) :
    CallOk Tryz.prog 9 #[str tx] ro own K :=
  CallOk.lastly (Q := fun v L => ∃ l a code a' c', scanD tx = (l, a, code) ∧ l.length ≤ 8193 ∧ code ≤ 1000 ∧ a ≤ tx.length ∧ v = .tuple #[.slice a' l.length c', faultV code a] ∧ L = [.sl a' l.length c' 40 3 (toksV l)])
    (scan_ok hS hl (fun l a code a' c' h1 h2 h3 h4 h5 h6 => ⟨rfl, [_], rfl, l, a, code, a', c', h1, h2, h3, h4, rfl, rfl⟩)) (fun ro' v L hl hh ⟨l, a, code, a', c', h1, h2, h3, h4, hv, he⟩ => by
    subst hv; subst he
    exact hk ro' l a code a' c' hl h1 h2 h3 h4 (Rs.last (hh _ (List.mem_singleton.2 rfl))))
set_option maxHeartbeats 4000000 in
theorem bspecAt_ok (ho : SpecOk ro ⟨s.nodes, s.defs⟩ a) (hn : s.nodes.length ≤ 100000 ∧ s.defs.length ≤ 100000) (hs : ∀ d ∈ s.nodes, NodeSm d)
    (h1 : checkD ⟨s.nodes, s.defs⟩ ≠ 0 → K (.tuple #[.agg #[.slice none 0 0, .slice none 0 0], .int .i64 (checkD ⟨s.nodes, s.defs⟩)]) ro (rdC r la lc l s a :: q))
    (h2 : checkD ⟨s.nodes, s.defs⟩ = 0 → ∀ ro' a', Le ro ro' → SpecOk ro' ⟨s.nodes, s.defs⟩ a' → K (.tuple #[.agg (specV ⟨s.nodes, s.defs⟩ a').toArray, .int .i64 0]) ro' (rdC r la lc l s a :: q)) :
    CallOk Tryz.prog 18 #[.pointer (some ⟨r, 0 + 2, none⟩)] ro (rdC r la lc l s a :: q) K := by
  unfold rdC readV at h1 h2 ⊢
  refine CallOk.intro (args := [_]) (rs := [_, _]) T_ok Tryz.func18 Tryz.call18 rfl rfl (by kernel_rfl) rfl rfl ?_
  repeat (first | exact endA | refine wkP ?_ | refine opB (fun b => ?_) | refine opA (fun a' c' hc1 hc2 => ?_) | (apply GJ.and; exact rfl; intro hg) | (apply GJ.or; exact rfl; intro hg))
  refine check_ok ho ?_
  by_cases hc : checkD ⟨s.nodes, s.defs⟩ = 0
  · rw [hc]
    repeat (first | exact endA | refine wkP ?_ | refine opB (fun b => ?_) | refine opA (fun a' c' hc1 hc2 => ?_) | (apply GJ.and; exact rfl; intro hg) | (apply GJ.or; exact rfl; intro hg))
    refine sclone_last ho hn hs (fun ro' a' hl' h' => ?_)
    have hk2 := h2 hc ro' a' hl' h'
    repeat (first | exact endA | refine wkP ?_ | refine opB (fun b => ?_) | refine opA (fun a' c' hc1 hc2 => ?_) | (apply GJ.and; exact rfl; intro hg) | (apply GJ.or; exact rfl; intro hg))
    exact Wk.outS Sup.auto (.refl _) hk2
  · have hk2 := h1 hc
    generalize checkD ⟨s.nodes, s.defs⟩ = z at *
    repeat (first | exact endA | refine wkP ?_ | refine opB (fun b => ?_) | refine opA (fun a' c' hc1 hc2 => ?_) | (apply GJ.and; exact rfl; intro hg) | (apply GJ.or; exact rfl; intro hg))
    exact Wk.outS Sup.auto (.refl _) hk2
set_option maxHeartbeats 4000000 in
theorem parse_ok {tx : List UInt8} (hS : SpOk ro) (hM : MaxOk ro) (hl : tx.length ≤ 100000)
    (hk : ∀ ro' a, Le ro ro' → SpecOk ro' (parseD tx).1 a → K (.tuple #[.agg (specV (parseD tx).1 a).toArray, .agg #[.int .i64 (parseD tx).2.1, .int .i64 ((parseD tx).2.2 : Int)]]) ro' own) :
    CallOk Tryz.prog 8 #[str tx] ro own K := by
  unfold parseD at hk
  refine CallOk.intro (args := [_]) (rs := [_, _]) T_ok Tryz.func8 Tryz.call8 rfl rfl (by kernel_rfl) rfl rfl ?_
  repeat (first | exact endA | refine wkP ?_ | refine opB (fun b => ?_) | refine opA (fun a' c' hc1 hc2 => ?_) | (apply GJ.and; exact rfl; intro hg) | (apply GJ.or; exact rfl; intro hg))
  rename_i b2
  obtain ⟨b3, hb3⟩ : ∃ z : Nat, z = b := ⟨_, rfl⟩
  subst hb3
  refine scan_last hS hl (fun ro1 l a code a' c' hl1 hsc h1 h2 h3 h4 => ?_)
  rw [hsc] at hk
  dsimp only at hk
  repeat (first | exact endA | refine wkP ?_ | refine opB (fun b => ?_) | refine opA (fun a' c' hc1 hc2 => ?_) | (apply GJ.and; exact rfl; intro hg) | (apply GJ.or; exact rfl; intro hg))
  by_cases hc : code = 0
  · rw [if_neg (fun h => h hc)] at hk
    subst hc
    obtain ⟨e1, e2, e3, e4⟩ := scan_end hsc
    have hT : ToksOk ro1 a' c' l := ⟨h4, e1.pos, e1.last, h1, fun t ht => by have := e2 t ht; omega⟩
    repeat (first | exact endA | refine wkP ?_ | refine opB (fun b => ?_) | refine opA (fun a' c' hc1 hc2 => ?_) | (apply GJ.and; exact rfl; intro hg) | (apply GJ.or; exact rfl; intro hg))
    rename_i b5
    obtain ⟨r, hr⟩ : ∃ z : Nat, z = b := ⟨_, rfl⟩
    subst hr
    obtain ⟨R, hR⟩ : ∃ R, R = readP numD l := ⟨_, rfl⟩
    rw [← hR] at hk
    unfold readP at hR
    obtain ⟨S, hS2⟩ : ∃ S, S = defsP numD (listE l) 70 startP := ⟨_, rfl⟩
    rw [← hS2] at hR
    refine LoopOk.auto (ι := Bool × PS × SpecA) Keep.auto (fun (m, s, a0) => [(7, .bool m)]) (fun (m, s, a0) => rdC r a' c' l s a0 :: ndC s a0 :: dfC s a0 :: .blk b2 26 [.slice none 0 0, .slice none 0 0] :: .blk b3 29 [.int .i64 0, .int .i64 0] :: own) (fun (m, s, a0) ro2 => RdOk ro2 l s a0 ∧ S = (if m = true ∧ s.code = 0 then defsP numD (listE l) (70 - s.defs.length) s else s)) (fun (m, s, a0) => (if s.code = 0 then 70 - s.defs.length else 0) + (if m = true then 1 else 0)) (true, startP, ⟨none, 0, none, 0, []⟩) ?_ Sub.auto Sup.auto ?_
    · exact ⟨⟨e1.pos, e1.pos, Nat.zero_le _, ⟨rfl, fun i d x h => by simp [startP] at h, ⟨Nat.le_refl _, Nat.zero_le _⟩, ⟨Nat.le_refl _, Nat.zero_le _⟩⟩, fun d hd => (by cases hd), Nat.zero_le _, Nat.zero_le _⟩, by rw [hS2, if_pos ⟨rfl, rfl⟩]; rfl⟩
    clear hS2 hsc
    rintro ⟨m, s, a0⟩ ro2 hl2 ⟨i1, i2⟩
    dsimp only [List.cons_append, List.nil_append] at i1 i2 ⊢
    have hM2 := (hM.le hl1).le hl2
    have hT2 := hT.up hl2
    cases m with
    | false =>
      rw [if_neg (fun h => by cases h.1)] at i2
      subst i2
      repeat (first | exact endA | refine wkP ?_ | refine opB (fun b => ?_) | refine opA (fun a' c' hc1 hc2 => ?_) | (apply GJ.and; exact rfl; intro hg) | (apply GJ.or; exact rfl; intro hg))
      refine rok_ok i1 Take.auto ?_
      by_cases hc0 : S.code = 0
      · rw [if_neg (fun h => h hc0)] at hR
        rw [decide_eq_true hc0]
        repeat (first | exact endA | refine wkP ?_ | refine opB (fun b => ?_) | refine opA (fun a' c' hc1 hc2 => ?_) | (apply GJ.and; exact rfl; intro hg) | (apply GJ.or; exact rfl; intro hg))
        refine CallOk.freeze (c := ndC S a0) Take.auto (fun ro8 hl8 hc8 => ?_)
        refine CallOk.freeze (c := dfC S a0) Take.auto (fun ro9 hl9 hc9 => ?_)
        have hb := (i1.up hl8).up hl9
        have hso : SpecOk ro9 ⟨S.nodes, S.defs⟩ a0 := ⟨hb.build.len, rsUp hl9 (Rs.last hc8), hb.build.each, Rs.last hc9⟩
        have hnn := i1.nn
        have hnd := i1.nd
        refine CallOk.perm (Take.perm (c := rdC r a' c' l S a0) Take.auto) ?_
        refine bspecAt_ok hso ⟨by omega, by omega⟩ i1.sm (fun hck => ?_) (fun hck ro4 a4 hl4 h4 => ?_)
        · rw [if_pos hck] at hR
          subst hR
          dsimp only at hk
          rw [if_neg hck] at hk
          have hk2 := hk ro9 ⟨none, 0, none, 0, []⟩ (((hl1.trans hl2).trans hl8).trans hl9) ⟨rfl, Rs.nil _ 18, fun i d x h => by simp at h, Rs.nil _ 2⟩
          generalize checkD ⟨S.nodes, S.defs⟩ = z at *
          repeat (first | exact endA | refine wkP ?_ | refine opB (fun b => ?_) | refine opA (fun a' c' hc1 hc2 => ?_) | (apply GJ.and; exact rfl; intro hg) | (apply GJ.or; exact rfl; intro hg))
          exact Wk.outS Sup.auto (.refl _) hk2
        · rw [if_neg (fun h => h hck)] at hR
          subst hR
          dsimp only at hk
          rw [if_pos rfl] at hk
          have hk2 := hk ro4 a4 ((((hl1.trans hl2).trans hl8).trans hl9).trans hl4) h4
          repeat (first | exact endA | refine wkP ?_ | refine opB (fun b => ?_) | refine opA (fun a' c' hc1 hc2 => ?_) | (apply GJ.and; exact rfl; intro hg) | (apply GJ.or; exact rfl; intro hg))
          exact Wk.outS Sup.auto (.refl _) hk2
      · rw [if_pos hc0] at hR
        rw [decide_eq_false hc0]
        subst hR
        dsimp only at hk
        rw [if_neg (show ¬ (S.code : Int) = 0 by omega), show (l[S.fat]?.getD endT).a = fatV l S by unfold fatV; rw [if_neg hc0]] at hk
        have hk2 := hk ro2 ⟨none, 0, none, 0, []⟩ (hl1.trans hl2) ⟨rfl, Rs.nil _ 18, fun i d x h => by simp at h, Rs.nil _ 2⟩
        unfold rdC readV
        repeat (first | exact endA | refine wkP ?_ | refine opB (fun b => ?_) | refine opA (fun a' c' hc1 hc2 => ?_) | (apply GJ.and; exact rfl; intro hg) | (apply GJ.or; exact rfl; intro hg))
        exact Wk.outS Sup.auto (.refl _) hk2
    | true =>
      by_cases hc : s.code = 0
      · rw [if_pos ⟨rfl, hc⟩] at i2
        have h64 := i1.nd
        rw [show 70 - s.defs.length = (69 - s.defs.length) + 1 by omega, defsP] at i2
        repeat (first | exact endA | refine wkP ?_ | refine opB (fun b => ?_) | refine opA (fun a' c' hc1 hc2 => ?_) | (apply GJ.and; exact rfl; intro hg) | (apply GJ.or; exact rfl; intro hg))
        refine rok_ok i1 Take.auto ?_
        rw [decide_eq_true hc]
        repeat (first | exact endA | refine wkP ?_ | refine opB (fun b => ?_) | refine opA (fun a' c' hc1 hc2 => ?_) | (apply GJ.and; exact rfl; intro hg) | (apply GJ.or; exact rfl; intro hg))
        refine rdef_ok hM2 hT2 i1 Take.auto Take.auto Take.auto (fun ro3 a3 hl3 h5 => ?_)
        have hdc := def_code (l := l) (s := s)
        generalize defP numD (listE l) s = s3 at *
        repeat (first | exact endA | refine wkP ?_ | refine opB (fun b => ?_) | refine opA (fun a' c' hc1 hc2 => ?_) | (apply GJ.and; exact rfl; intro hg) | (apply GJ.or; exact rfl; intro hg))
        refine rpeek_ok (hT2.up hl3) h5 Take.auto ?_
        repeat (first | exact endA | refine wkP ?_ | refine opB (fun b => ?_) | refine opA (fun a' c' hc1 hc2 => ?_) | (apply GJ.and; exact rfl; intro hg) | (apply GJ.or; exact rfl; intro hg))
        refine Wk.id ⟨(decide (((peekP (listE l) s3).kind : Int) ≠ 5), s3, a3), ?_, ?_, Sub.auto, Sup.auto⟩
        all_goals try dsimp only
        · refine ⟨h5, ?_⟩
          rw [i2]
          have e5 : (decide (((peekP (listE l) s3).kind : Int) ≠ 5) = true ∧ s3.code = 0) ↔ (s3.code = 0 ∧ (peekP (listE l) s3).kind ≠ 5) := by
            rw [decide_eq_true_iff]
            omega
          by_cases hx : s3.code = 0 ∧ (peekP (listE l) s3).kind ≠ 5
          · rw [if_pos hx, if_pos (e5.2 hx), hdc hx.1, show 70 - (s.defs.length + 1) = 69 - s.defs.length by omega]
          · rw [if_neg hx, if_neg (fun h => hx (e5.1 h))]
        · rw [if_pos hc, if_pos rfl]
          have h1 : (if decide (((peekP (listE l) s3).kind : Int) ≠ 5) = true then 1 else 0) ≤ 1 := by split <;> omega
          split
          · rename_i hx
            have := hdc hx
            omega
          · omega
      · rw [if_neg (fun h => hc h.2)] at i2
        subst i2
        repeat (first | exact endA | refine wkP ?_ | refine opB (fun b => ?_) | refine opA (fun a' c' hc1 hc2 => ?_) | (apply GJ.and; exact rfl; intro hg) | (apply GJ.or; exact rfl; intro hg))
        refine rok_ok i1 Take.auto ?_
        have hc0 := hc
        rw [decide_eq_false hc]
        repeat (first | exact endA | refine wkP ?_ | refine opB (fun b => ?_) | refine opA (fun a' c' hc1 hc2 => ?_) | (apply GJ.and; exact rfl; intro hg) | (apply GJ.or; exact rfl; intro hg))
        refine rok_ok i1 Take.auto ?_
        rw [if_pos hc0] at hR
        rw [decide_eq_false hc0]
        subst hR
        dsimp only at hk
        rw [if_neg (show ¬ (S.code : Int) = 0 by omega), show (l[S.fat]?.getD endT).a = fatV l S by unfold fatV; rw [if_neg hc0]] at hk
        have hk2 := hk ro2 ⟨none, 0, none, 0, []⟩ (hl1.trans hl2) ⟨rfl, Rs.nil _ 18, fun i d x h => by simp at h, Rs.nil _ 2⟩
        unfold rdC readV
        repeat (first | exact endA | refine wkP ?_ | refine opB (fun b => ?_) | refine opA (fun a' c' hc1 hc2 => ?_) | (apply GJ.and; exact rfl; intro hg) | (apply GJ.or; exact rfl; intro hg))
        exact Wk.outS Sup.auto (.refl _) hk2
  · rw [if_pos hc] at hk
    have hk2 := hk ro1 ⟨none, 0, none, 0, []⟩ hl1 ⟨rfl, Rs.nil _ 18, fun i d x h => by simp at h, Rs.nil _ 2⟩
    repeat (first | exact endA | refine wkP ?_ | refine opB (fun b => ?_) | refine opA (fun a' c' hc1 hc2 => ?_) | (apply GJ.and; exact rfl; intro hg) | (apply GJ.or; exact rfl; intro hg))
    exact Wk.outS Sup.auto (.refl _) hk2
end
end Go.Proofs.YtepdapdekaiioaaGreatDoor
end
section
/- Contracts of spec: Same, from outside; what the law's own builder does. -/
namespace Go.Proofs.YtepdapdekaiioaaGreatDoor
open Go Go.E
set_option linter.unusedVariables false
set_option maxRecDepth 10000
section
variable {ro : Ro} {own r : Chs} {K : Value → Ro → Chs → Prop} {g : Chunk → Chs}
set_option maxHeartbeats 1000000 in
theorem msame_ok {s : SpecD} {a a2 : SpecA} (ho : SpecOk ro s a) (ho2 : SpecOk ro s a2) (hv : Ahead s) (hd : ∀ d ∈ s.defs, 0 ≤ d.type ∧ d.type < (s.nodes.length : Int)) (hk : K (.bool true) ro own) : CallOk Tryz.prog 12 #[.agg (specV s a).toArray, .agg (specV s a2).toArray] ro own K := by
  have hr2 := ho.defs
  have hr3 := ho2.defs
  have hm2 := hr2.max
  have hle2 := hr2.le
  have hm3 := hr3.max
  have hle3 := hr3.le
  unfold maxLen at hm2 hm3
  refine CallOk.intro (args := [_, _]) (rs := [_]) T_ok Tryz.func12 Tryz.call12 rfl rfl (by kernel_rfl) rfl rfl ?_
  repeat (first | exact endA | refine wkU ?_ | (show QOk _ _ _ _ _ _ _; refine QOk.build rfl rfl Nf.auto ?_) | (show GJ _ _ _ _ _ _ _; first | with_reducible refine GJ.neF ?_ | with_reducible refine GJ.neT ?_) | (show Br _ _ _; with_reducible refine Br.ne ?_) | refine opB (fun b => ?_) | refine opA (fun a' c' hc1 hc2 => ?_) | (apply GJ.and; exact rfl; intro hg) | (apply GJ.or; exact rfl; intro hg))
  rename_i b1
  refine LoopOk.at (ι := Nat) Keep.auto (fun i => [(25, .int .i64 (i : Int))]) (fun i => .blk b 26 (specV s a2) :: .blk b1 26 (specV s a) :: own) (fun i => i ≤ s.defs.length) (fun i => s.defs.length - i) 0 ?_ Sub.auto Sup.auto ?_
  · omega
  rintro i i1
  dsimp only [List.cons_append, List.nil_append]
  repeat (first | exact endA | refine wkG ?_ | refine opB (fun b => ?_) | refine opA (fun a' c' hc1 hc2 => ?_) | (show GJ _ _ _ _ _ _ _; first | (apply GJ.and; exact rfl; intro hg) | (apply GJ.or; exact rfl; intro hg) | refine GJ.t omAuto ?_ | refine GJ.f omAuto ?_ | refine GJ.ft omAuto ?_ | refine GJ.ff omAuto ?_))
  refine Br.cases (fun hg => ?_) (fun hg => ?_)
  · have hdf := defsV_drop s.defs (i := i) (by omega)
    have hmem := hd (s.defs[i]'(by omega)) (List.getElem_mem _)
    generalize s.defs[i]'(by omega) = f at hdf hmem
    obtain ⟨m, hm⟩ : ∃ m : Nat, f.type = (m : Int) := ⟨f.type.toNat, by omega⟩
    have hc0 : (defsV s.defs)[i * 2 + 0]? = some (str f.name) := by
      have := congrArg (·[0]?) hdf
      simpa [defV, List.getElem?_take, List.getElem?_drop] using this
    have hc1 : (defsV s.defs)[i * 2 + 1]? = some (.int .i64 (m : Int)) := by
      rw [← hm]
      have := congrArg (·[1]?) hdf
      simpa [defV, List.getElem?_take, List.getElem?_drop] using this
    repeat (first | exact endA | refine wkU ?_ | (show QOk _ _ _ _ _ _ _; refine QOk.build rfl rfl Nf.auto ?_) | (show GJ _ _ _ _ _ _ _; first | with_reducible refine GJ.neF ?_ | with_reducible refine GJ.neT ?_) | (show Br _ _ _; with_reducible refine Br.ne ?_) | refine opB (fun b => ?_) | refine opA (fun a' c' hc1 hc2 => ?_) | (apply GJ.and; exact rfl; intro hg) | (apply GJ.or; exact rfl; intro hg))
    rw [Int.toNat_natCast, Nat.add_assoc]
    refine QOk.load rfl rfl (Ld.rs hr2 hc0) ?_
    repeat (first | exact endA | refine wkU ?_ | (show QOk _ _ _ _ _ _ _; refine QOk.build rfl rfl Nf.auto ?_) | (show GJ _ _ _ _ _ _ _; first | with_reducible refine GJ.neF ?_ | with_reducible refine GJ.neT ?_) | (show Br _ _ _; with_reducible refine Br.ne ?_) | refine opB (fun b => ?_) | refine opA (fun a' c' hc1 hc2 => ?_) | (apply GJ.and; exact rfl; intro hg) | (apply GJ.or; exact rfl; intro hg))
    rw [Int.toNat_natCast, Nat.add_assoc]
    refine QOk.load rfl rfl (Ld.rs hr3 hc0) ?_
    repeat (first | exact endA | refine wkU ?_ | (show QOk _ _ _ _ _ _ _; refine QOk.build rfl rfl Nf.auto ?_) | (show GJ _ _ _ _ _ _ _; first | with_reducible refine GJ.neF ?_ | with_reducible refine GJ.neT ?_) | (show Br _ _ _; with_reducible refine Br.ne ?_) | refine opB (fun b => ?_) | refine opA (fun a' c' hc1 hc2 => ?_) | (apply GJ.and; exact rfl; intro hg) | (apply GJ.or; exact rfl; intro hg))
    rw [Int.toNat_natCast, Nat.add_assoc]
    refine QOk.load rfl rfl (Ld.rs hr2 hc1) ?_
    repeat (first | exact endA | refine wkU ?_ | (show QOk _ _ _ _ _ _ _; refine QOk.build rfl rfl Nf.auto ?_) | (show GJ _ _ _ _ _ _ _; first | with_reducible refine GJ.neF ?_ | with_reducible refine GJ.neT ?_) | (show Br _ _ _; with_reducible refine Br.ne ?_) | refine opB (fun b => ?_) | refine opA (fun a' c' hc1 hc2 => ?_) | (apply GJ.and; exact rfl; intro hg) | (apply GJ.or; exact rfl; intro hg))
    rw [Int.toNat_natCast, Nat.add_assoc]
    refine QOk.load rfl rfl (Ld.rs hr3 hc1) ?_
    repeat (first | exact endA | refine wkU ?_ | (show QOk _ _ _ _ _ _ _; refine QOk.build rfl rfl Nf.auto ?_) | (show GJ _ _ _ _ _ _ _; first | with_reducible refine GJ.neF ?_ | with_reducible refine GJ.neT ?_) | (show Br _ _ _; with_reducible refine Br.ne ?_) | refine opB (fun b => ?_) | refine opA (fun a' c' hc1 hc2 => ?_) | (apply GJ.and; exact rfl; intro hg) | (apply GJ.or; exact rfl; intro hg))
    refine same_ok ho ho2 hv (m + 1) m (by omega) (by omega) ro _ _ ?_
    repeat (first | exact endA | refine wkU ?_ | (show QOk _ _ _ _ _ _ _; refine QOk.build rfl rfl Nf.auto ?_) | (show GJ _ _ _ _ _ _ _; first | with_reducible refine GJ.neF ?_ | with_reducible refine GJ.neT ?_) | (show Br _ _ _; with_reducible refine Br.ne ?_) | refine opB (fun b => ?_) | refine opA (fun a' c' hc1 hc2 => ?_) | (apply GJ.and; exact rfl; intro hg) | (apply GJ.or; exact rfl; intro hg))
    refine Wk.id ⟨i + 1, ⟨rfl, ?_⟩, ?_, Sub.auto, Sup.auto⟩
    all_goals try dsimp only
    · omega
    · omega
  · repeat (first | exact endA | refine wkU ?_ | (show QOk _ _ _ _ _ _ _; refine QOk.build rfl rfl Nf.auto ?_) | (show GJ _ _ _ _ _ _ _; first | with_reducible refine GJ.neF ?_ | with_reducible refine GJ.neT ?_) | (show Br _ _ _; with_reducible refine Br.ne ?_) | refine opB (fun b => ?_) | refine opA (fun a' c' hc1 hc2 => ?_) | (apply GJ.and; exact rfl; intro hg) | (apply GJ.or; exact rfl; intro hg))
    exact Wk.outS Sup.auto (.refl _) hk
end
end Go.Proofs.YtepdapdekaiioaaGreatDoor
end
section
/- Law 12: a text that is read. -/
namespace Go.E
theorem vFo.leaf {P : Program} {T : TT} {all : List Oper} {B : Chs} {Φ : Kt} {env : Env} {ro : Ro} {own : Chs} (h : Φ env ro own) : vFo P T all B Φ .leaf env ro own := h
end Go.E
namespace Go.Proofs.YtepdapdekaiioaaGreatDoor
open Go Go.E
set_option linter.unusedVariables false
set_option linter.unusedSectionVars false
set_option linter.unusedSimpArgs false
set_option maxRecDepth 10000
def textR : List UInt8 := [110, 97, 109, 101, 32, 61, 32, 99, 104, 97, 105, 110, 32, 123, 32, 123, 32, 110, 58, 32, 117, 56, 32, 49, 46, 46, 54, 51, 32, 61, 32, 115, 105, 122, 101, 40, 116, 41, 59, 32, 116, 58, 32, 98, 121, 116, 101, 115, 91, 110, 93, 59, 32, 125, 32, 124, 32, 108, 97, 115, 116, 32, 117, 56, 32, 48, 46, 46, 48, 32, 125, 59, 10, 109, 97, 105, 110, 32, 61, 32, 123, 32, 107, 58, 32, 117, 49, 54, 98, 101, 32, 61, 32, 99, 111, 117, 110, 116, 40, 113, 41, 59, 32, 113, 58, 32, 116, 105, 109, 101, 115, 91, 107, 93, 32, 110, 97, 109, 101, 59, 32, 114, 58, 32, 115, 119, 105, 116, 99, 104, 32, 107, 32, 37, 32, 50, 32, 123, 32, 48, 58, 32, 101, 109, 112, 116, 121, 59, 32, 101, 108, 115, 101, 58, 32, 47, 97, 47, 59, 32, 125, 59, 32, 99, 58, 32, 117, 51, 50, 98, 101, 32, 61, 32, 99, 114, 99, 40, 107, 46, 46, 113, 41, 59, 32, 119, 58, 32, 119, 105, 116, 104, 105, 110, 91, 50, 42, 107, 43, 49, 93, 32, 109, 97, 110, 121, 32, 118, 97, 114, 105, 110, 116, 59, 32, 125, 59]
def nodeR : NodeD := ⟨5, 0, false, false, false, 0, 0, [], [], 0, 0, [], [], [⟨[107], 5, 2, [113], []⟩, ⟨[113], 7, 0, [], []⟩, ⟨[114], 10, 0, [], []⟩, ⟨[99], 11, 3, [107], [113]⟩, ⟨[119], 14, 0, [], []⟩], [], 0, [], 0⟩
def nodeW : NodeD := ⟨8, 0, false, false, false, 0, 0, [], [107], 2, 1, [13], [], [], [], 0, [], 0⟩
def specR : SpecD := ⟨[⟨1, 1, false, false, false, 1, 63, [], [], 0, 0, [], [], [], [], 0, [], 0⟩,
  ⟨4, 0, false, false, false, 0, 0, [], [110], 1, 0, [], [], [], [], 0, [], 0⟩,
  ⟨5, 0, false, false, false, 0, 0, [], [], 0, 0, [], [], [⟨[110], 0, 1, [116], []⟩, ⟨[116], 1, 0, [], []⟩], [], 0, [], 0⟩,
  ⟨1, 1, false, false, false, 0, 0, [], [], 0, 0, [], [], [], [], 0, [], 0⟩,
  ⟨11, 0, false, false, false, 0, 0, [], [], 0, 0, [2, 3], [false, true], [], [], 0, [], 0⟩,
  ⟨1, 2, false, false, false, 0, 65535, [], [], 0, 0, [], [], [], [], 0, [], 0⟩,
  ⟨13, 0, false, false, false, 0, 0, [110, 97, 109, 101], [], 0, 0, [], [], [], [], 0, [], 0⟩,
  ⟨6, 0, false, false, false, 0, 0, [], [107], 1, 0, [6], [], [], [], 0, [], 0⟩,
  ⟨12, 0, false, false, false, 0, 0, [], [], 0, 0, [], [], [], [], 0, [], 0⟩,
  ⟨3, 0, false, false, false, 0, 0, [97], [], 0, 0, [], [], [], [], 0, [], 0⟩,
  ⟨9, 0, false, false, false, 0, 0, [], [], 0, 0, [], [], [], [107], 2, [⟨0, 8⟩], 9⟩,
  ⟨1, 4, false, false, false, 0, 4294967295, [], [], 0, 0, [], [], [], [], 0, [], 0⟩,
  ⟨2, 0, false, false, false, 0, 18446744073709551615, [], [], 0, 0, [], [], [], [], 0, [], 0⟩,
  ⟨7, 0, false, false, false, 0, 0, [], [], 0, 0, [12], [], [], [], 0, [], 0⟩,
  ⟨8, 0, false, false, false, 0, 0, [], [107], 2, 1, [13], [], [], [], 0, [], 0⟩,
  ⟨5, 0, false, false, false, 0, 0, [], [], 0, 0, [], [], [⟨[107], 5, 2, [113], []⟩, ⟨[113], 7, 0, [], []⟩, ⟨[114], 10, 0, [], []⟩, ⟨[99], 11, 3, [107], [113]⟩, ⟨[119], 14, 0, [], []⟩], [], 0, [], 0⟩], [⟨[110, 97, 109, 101], 4⟩, ⟨[109, 97, 105, 110], 15⟩]⟩
theorem read_R : parseD textR = (specR, 0, 0) := by kernel_rfl
theorem read_R2 : parseD [109, 97, 105, 110, 32, 61, 32, 117, 56] = (⟨[], []⟩, 5, 9) := by kernel_rfl
theorem check_R : checkD specR = 0 := by kernel_rfl
theorem fix_R : fixedD [117, 50, 52, 108, 101] = some (3, true) := by kernel_rfl
theorem word_R : wordD [109, 97, 110, 121] = true := by kernel_rfl
theorem word_R2 : wordD [109, 97, 105, 110] = false := by kernel_rfl
theorem args_eq {P : Program} {f : FuncId} {xs bs : Array Value} {ro : Ro} {own : Chs} {K : Value → Ro → Chs → Prop} (e : xs = bs) (h : CallOk P f bs ro own K) : CallOk P f xs ro own K := e ▸ h
section
variable {ro : Ro} {own : Chs} {K : Value → Ro → Chs → Prop}
set_option maxHeartbeats 4000000 in
theorem reads_ok (hS : SpOk ro) (hM : MaxOk ro) (hk : ∀ ro', Le ro ro' → K (.bool true) ro' own) : CallOk Tryz.prog 7 #[] ro own K := by
  refine CallOk.intro (args := []) (rs := [_]) T_ok Tryz.func7 Tryz.call7 rfl rfl (by kernel_rfl) rfl rfl ?_
  repeat (first | exact endA | refine wkP ?_ | refine opB (fun b => ?_) | refine opA (fun a' c' hc1 hc2 => ?_) | (apply GJ.and; exact rfl; intro hg) | (apply GJ.or; exact rfl; intro hg))
  refine args_eq (bs := #[str textR]) (by kernel_rfl) ?_
  refine parse_ok hS hM (by decide) (fun ro1 a1 hl1 h1 => ?_)
  rw [read_R] at h1 ⊢
  dsimp only at h1 ⊢
  obtain ⟨y, hy⟩ : ∃ y, a1.xs[15]? = some y := ⟨_, List.getElem?_eq_getElem (by rw [h1.len]; decide)⟩
  obtain ⟨z, hz⟩ : ∃ y, a1.xs[14]? = some y := ⟨_, List.getElem?_eq_getElem (by rw [h1.len]; decide)⟩
  have e1 : specR.defs.length = 2 := rfl
  have e2 : specR.nodes.length = 16 := rfl
  have e3 : nodeR.fields.length = 5 := rfl
  have hnd := h1.nodes
  have hdf := h1.defs
  have hd1 : ((nodesV specR.nodes a1.xs).drop (15 * 18)).take 18 = nodeV nodeR y := nodesV_drop _ _ _ _ _ rfl hy
  have hd2 : ((nodesV specR.nodes a1.xs).drop (14 * 18)).take 18 = nodeV nodeW z := nodesV_drop _ _ _ _ _ rfl hz
  have hd3 : ((nodesV specR.nodes a1.xs).drop (14 * 18 + 8)).take 3 = [str [107], .int .u64 2, .int .u64 1] := by
    have := congrArg (fun l => (l.drop 8).take 3) hd2
    simpa [List.drop_take, List.take_take, List.drop_drop, nodeV, nodeW] using this
  have hfl := (h1.each 15 nodeR y rfl hy).fields
  repeat (first | exact endA | refine wkP ?_ | refine opB (fun b => ?_) | refine opA (fun a' c' hc1 hc2 => ?_) | (apply GJ.and; exact rfl; intro hg) | (apply GJ.or; exact rfl; intro hg))
  refine check_ok h1 ?_
  rw [check_R]
  repeat (first | exact endA | refine wkP ?_ | refine opB (fun b => ?_) | refine opA (fun a' c' hc1 hc2 => ?_) | (apply GJ.and; exact rfl; intro hg) | (apply GJ.or; exact rfl; intro hg))
  refine OpOk.load rfl rfl (Ld.rs (k := 2) (v := str [109, 97, 105, 110]) hdf (by rfl)) ?_
  repeat (first | exact endA | refine wkP ?_ | refine opB (fun b => ?_) | refine opA (fun a' c' hc1 hc2 => ?_) | (apply GJ.and; exact rfl; intro hg) | (apply GJ.or; exact rfl; intro hg))
  rename_i bS
  obtain ⟨bF, hbF⟩ : ∃ z : Nat, z = b := ⟨_, rfl⟩
  subst hbF
  have hrt : rootD specR = 15 := rfl
  refine AllOk.at (ι := Nat) (fun n => [(0, .bool false), (1, ptr' bS), (3, ptr' n)]) (fun n => .blk n 56 (nodeV nodeR y) :: .blk bS 26 (specV specR a1) :: own) (fun _ => True) ?_ (fun n _ => ?_)
  · repeat' (first | with_reducible exact vFo.nil | ((with_reducible refine vFo.cons ?_ ?_); refine vOne.at (by rfl) ?_) | ((with_reducible refine vFo.leaf ?_); exact ⟨rfl, _, Sub.auto, Sup.auto, trivial⟩) | (show Stop (OpOk _ _ _ _ _ _ _); refine Stop.mk ?_) | (show Stop (CallOk _ _ _ _ _ _); refine Stop.mk ?_) | (show CallOk _ _ _ _ _ _; refine root_ok h1 ?_) | (show OpOk _ _ _ _ _ _ _; first | refine opB (fun b => ?_) | refine OpOk.loadRow rfl rfl (LdN.at hnd hd1) rfl ?_ | refine OpOk.idx rfl rfl rfl (by omega) AOk.auto ?_ | refine OpOk.storeRow rfl rfl rfl rfl (by rfl) rfl ?_) | refine vFo.stop Sup.auto ?_)
  dsimp only
  repeat (first | exact endA | refine wkP ?_ | refine opB (fun b => ?_) | refine opA (fun a' c' hc1 hc2 => ?_) | (apply GJ.and; exact rfl; intro hg) | (apply GJ.or; exact rfl; intro hg))
  refine parse_ok (hS.le hl1) (hM.le hl1) (by decide) (fun ro2 a2 hl2 h2 => ?_)
  rw [read_R2] at h2 ⊢
  dsimp only at h2 ⊢
  repeat (first | exact endA | refine wkP ?_ | refine opB (fun b => ?_) | refine opA (fun a' c' hc1 hc2 => ?_) | (apply GJ.and; exact rfl; intro hg) | (apply GJ.or; exact rfl; intro hg))
  refine rfixed_ok (by decide) ?_
  rw [fix_R]
  dsimp only [fixV]
  repeat (first | exact endA | refine wkP ?_ | refine opB (fun b => ?_) | refine opA (fun a' c' hc1 hc2 => ?_) | (apply GJ.and; exact rfl; intro hg) | (apply GJ.or; exact rfl; intro hg))
  refine QOk.load rfl rfl (Ld.rs (k := 0 * 5 + 2) (v := .int .i64 2) hfl (by rfl)) ?_
  repeat (first | exact endA | refine wkP ?_ | refine opB (fun b => ?_) | refine opA (fun a' c' hc1 hc2 => ?_) | (apply GJ.and; exact rfl; intro hg) | (apply GJ.or; exact rfl; intro hg))
  refine QOk.load rfl rfl (Ld.rs (k := 3 * 5 + 4) (v := str [113]) hfl (by rfl)) ?_
  repeat (first | exact endA | refine wkP ?_ | refine opB (fun b => ?_) | refine opA (fun a' c' hc1 hc2 => ?_) | (apply GJ.and; exact rfl; intro hg) | (apply GJ.or; exact rfl; intro hg))
  refine QOk.load rfl rfl (Ld.rs (k := 4 * 5 + 1) (v := .int .i64 14) hfl (by rfl)) ?_
  repeat (first | exact endA | refine wkP ?_ | refine opB (fun b => ?_) | refine opA (fun a' c' hc1 hc2 => ?_) | (apply GJ.and; exact rfl; intro hg) | (apply GJ.or; exact rfl; intro hg))
  refine QOk.loadRow rfl rfl (LdN.at hnd hd3) rfl ?_
  repeat (first | exact endA | refine wkP ?_ | refine opB (fun b => ?_) | refine opA (fun a' c' hc1 hc2 => ?_) | (apply GJ.and; exact rfl; intro hg) | (apply GJ.or; exact rfl; intro hg))
  refine QOk.eqlStruct (q := true) rfl rfl rfl (by rfl) (by kernel_rfl) (by kernel_rfl) (by kernel_rfl) ?_
  repeat (first | exact endA | refine wkP ?_ | refine opB (fun b => ?_) | refine opA (fun a' c' hc1 hc2 => ?_) | (apply GJ.and; exact rfl; intro hg) | (apply GJ.or; exact rfl; intro hg))
  refine QOk.eqlStruct (q := true) rfl rfl rfl (by rfl) (by kernel_rfl) (by kernel_rfl) (by kernel_rfl) ?_
  repeat (first | exact endA | refine wkP ?_ | refine opB (fun b => ?_) | refine opA (fun a' c' hc1 hc2 => ?_) | (apply GJ.and; exact rfl; intro hg) | (apply GJ.or; exact rfl; intro hg))
  refine word_okP (t := [109, 97, 110, 121]) ((hM.le hl1).le hl2) (by decide) ?_
  rw [word_R]
  repeat (first | exact endA | refine wkP ?_ | refine opB (fun b => ?_) | refine opA (fun a' c' hc1 hc2 => ?_) | (apply GJ.and; exact rfl; intro hg) | (apply GJ.or; exact rfl; intro hg))
  refine word_okP (t := [109, 97, 105, 110]) ((hM.le hl1).le hl2) (by decide) ?_
  rw [word_R2]
  have hk2 := hk ro2 (hl1.trans hl2)
  repeat (first | exact endA | refine wkP ?_ | refine opB (fun b => ?_) | refine opA (fun a' c' hc1 hc2 => ?_) | (apply GJ.and; exact rfl; intro hg) | (apply GJ.or; exact rfl; intro hg))
  exact Wk.outS Sup.auto (.refl _) hk2
end
end Go.Proofs.YtepdapdekaiioaaGreatDoor
end
section
/- Law 12: ParseReads. -/
namespace Go.Proofs.YtepdapdekaiioaaGreatDoor
open Go Go.E
set_option linter.unusedVariables false
set_option linter.unusedSectionVars false
set_option linter.unusedSimpArgs false
set_option maxRecDepth 10000
theorem defs_keep {l : List TokD} {s : PS} : (mustP (listE l) [59] (kindP numD (listE l) 25 (mustP (listE l) [61] (nameP (listE l) s).2)).2).defs = s.defs := by
  have C : Clo (listE l) (fun z => z.defs = s.defs) := ⟨fun z e _ h => by unfold wrongP; split <;> exact h, fun z h _ => h, fun z e _ h => by unfold wrongP; split <;> exact h, fun z n h => h⟩
  have h0 : InP (fun z => z.defs = s.defs) (listE l) s := ⟨rfl⟩
  exact (InP.must (InP.kind (wideP := numD) 25 _ (InP.must (InP.name h0) [61])) [59]).get
theorem name_short {l : List TokD} {N : Nat} (hl : ∀ t ∈ l, t.text.length ≤ N) (s : PS) : (nameP (listE l) s).1.length ≤ N := by
  have hp : (peekP (listE l) s).text.length ≤ N := by
    unfold peekP listE
    split
    · dsimp only
      cases h : l[s.at']? with
      | none => exact Nat.zero_le _
      | some t => exact hl t (List.mem_of_getElem? h)
    · dsimp only
      cases h : l.getLast? with
      | none => exact Nat.zero_le _
      | some t => exact hl t (List.mem_of_getLast? h)
  unfold nameP
  split
  · exact Nat.zero_le _
  · exact hp
theorem defs_short {l : List TokD} {N : Nat} (hl : ∀ t ∈ l, t.text.length ≤ N) : ∀ (f : Nat) (s : PS), (∀ d ∈ s.defs, d.name.length ≤ N) → ∀ d ∈ (defsP numD (listE l) f s).defs, d.name.length ≤ N := by
  have h1 : ∀ s : PS, (∀ d ∈ s.defs, d.name.length ≤ N) → ∀ d ∈ (defP numD (listE l) s).defs, d.name.length ≤ N := by
    intro s h
    have hk := defs_keep (l := l) (s := s)
    have hn := name_short hl s
    unfold defP
    dsimp only
    generalize mustP (listE l) [59] (kindP numD (listE l) 25 (mustP (listE l) [61] (nameP (listE l) s).2)).2 = s1 at *
    split
    · rw [hk]; exact h
    · split
      · have : (wrongP 2 s1).defs = s1.defs := by unfold wrongP; split <;> rfl
        rw [this, hk]; exact h
      · dsimp only
        rw [hk]
        intro d hd
        rcases List.mem_append.1 hd with hd | hd
        · exact h d hd
        · rw [List.mem_singleton] at hd; subst hd; exact hn
  intro f
  induction f with
  | zero => intro s h; exact h
  | succ f ih =>
    intro s h
    rw [defsP]
    split
    · exact ih _ (h1 s h)
    · exact h1 s h
/-- What a text's reading tells. -/
theorem parse_bad {tx : List UInt8} {l : List TokD} {ea code : Nat} (h : scanD tx = (l, ea, code)) (hc : code ≠ 0) : parseD tx = (⟨[], []⟩, (code : Int), ea) := by
  unfold parseD
  rw [h, if_pos hc]
theorem parse_good {tx : List UInt8} {l : List TokD} {ea : Nat} (h : scanD tx = (l, ea, 0)) :
    ((parseD tx).2.1 = 0 → checkD (parseD tx).1 = 0 ∧ (parseD tx).2.2 = 0 ∧ ∀ d ∈ (parseD tx).1.defs, wordD d.name = false ∧ d.name.length ≤ 65536) ∧
    ((parseD tx).2.1 ≠ 0 → (parseD tx).1 = ⟨[], []⟩ ∧ ∃ (i : Nat) (t : TokD), l[i]? = some t ∧ t.a = (parseD tx).2.2) := by
  obtain ⟨e1, e2, e3, e4⟩ := scan_end h
  obtain ⟨r1, r2⟩ := read_ok (wideP := numD) e1
  have hs : ∀ d ∈ (readP numD l).1.defs, d.name.length ≤ 65536 := by
    have := defs_short (l := l) (N := 65536) (fun t ht => by have := e2 t ht; omega) 70 startP (fun d hd => by cases hd)
    unfold readP
    dsimp only
    split
    · intro d hd; cases hd
    · split
      · intro d hd; cases hd
      · exact this
  unfold parseD
  rw [h]
  dsimp only
  generalize readP numD l = R at *
  rw [if_neg (fun h => h rfl)]
  dsimp only
  refine ⟨?_, ?_⟩
  · intro h0
    obtain ⟨g1, g2, g3⟩ := r1 h0
    exact ⟨g1, by rw [if_pos h0], fun d hd => ⟨g3 d hd, hs d hd⟩⟩
  · intro h0
    obtain ⟨g1, g2⟩ := r2 h0
    refine ⟨g1, ?_⟩
    rw [if_neg h0]
    cases hi : R.2.2 with
    | none =>
      refine ⟨l.length - 1, l[l.length - 1]'(by have := e1.pos; omega), List.getElem?_eq_getElem _, ?_⟩
      have hp := e1.pos
      refine e4 _ ?_
      rw [List.getLast?_eq_getElem?]
      exact List.getElem?_eq_getElem _
    | some i =>
      have := g2 i hi
      refine ⟨i, l[i], List.getElem?_eq_getElem this, ?_⟩
      show l[i].a = (l[i]?.getD endT).a
      rw [List.getElem?_eq_getElem this]; rfl
theorem SpecOk.up {ro ro' : Ro} {s : SpecD} {a : SpecA} (h : SpecOk ro s a) (hl : Le ro ro') : SpecOk ro' s a := ⟨h.len, h.nodes.up, fun i d x g1 g2 => (h.each i d x g1 g2).le hl, h.defs.up⟩
section
variable {ro : Ro} {own : Chs} {K : Value → Ro → Chs → Prop}
end
end Go.Proofs.YtepdapdekaiioaaGreatDoor
end
section
/- Law 12: ParseTokens. -/
namespace Go.Proofs.YtepdapdekaiioaaGreatDoor
open Go Go.E
set_option linter.unusedVariables false
set_option linter.unusedSectionVars false
set_option linter.unusedSimpArgs false
set_option maxRecDepth 10000
theorem parse_of {tx : List UInt8} {l : List TokD} {ea : Nat} (h : scanD tx = (l, ea, 0)) : (parseD tx).1 = (readP numD l).1 ∧ (parseD tx).2.1 = (readP numD l).2.1 := by
  unfold parseD
  rw [h]
  dsimp only
  generalize readP numD l = R
  rw [if_neg (fun h => h rfl)]
  exact ⟨rfl, rfl⟩
theorem parse_same {tx ty : List UInt8} {l m : List TokD} {ea eb : Nat} (h1 : scanD tx = (l, ea, 0)) (h2 : scanD ty = (m, eb, 0)) (hk : m.map keyD = l.map keyD) : (parseD ty).1 = (parseD tx).1 ∧ (parseD ty).2.1 = (parseD tx).2.1 :=
  have e := Ali.read (wideP := numD) (Ali.of hk)
  ⟨(parse_of h2).1.trans ((congrArg (fun r => r.1) e).trans (parse_of h1).1.symm), (parse_of h2).2.trans ((congrArg (fun r => r.2.1) e).trans (parse_of h1).2.symm)⟩
theorem defs_inP {s : SpecD} (h : checkD s = 0) : ∀ d ∈ s.defs, 0 ≤ d.type ∧ d.type < (s.nodes.length : Int) := fun d hd => by
  obtain ⟨o, o', _, h2, _⟩ := checkD_ok h
  exact ownAll_mem h2 d.type (List.mem_map.2 ⟨d, hd, rfl⟩)
section
variable {ro : Ro} {own : Chs} {K : Value → Ro → Chs → Prop}
end
end Go.Proofs.YtepdapdekaiioaaGreatDoor
end
section
/- Law 12: ParseJoins. -/
namespace Go.Proofs.YtepdapdekaiioaaGreatDoor
open Go Go.E
set_option linter.unusedVariables false
set_option linter.unusedSectionVars false
set_option linter.unusedSimpArgs false
set_option maxRecDepth 10000
theorem join_parse {ta tb : List UInt8} (hla : ta.length ≤ 1500) (hlb : tb.length ≤ 1500) (h1 : (parseD ta).2.1 = 0) (h2 : (parseD tb).2.1 = 0) :
    ((2048 < (parseD ta).1.nodes.length + (parseD tb).1.nodes.length ∨ 64 < (parseD ta).1.defs.length + (parseD tb).1.defs.length) → (parseD (ta ++ 10 :: tb)).2.1 = 2) ∧
    (¬ (2048 < (parseD ta).1.nodes.length + (parseD tb).1.nodes.length ∨ 64 < (parseD ta).1.defs.length + (parseD tb).1.defs.length) → (parseD (ta ++ 10 :: tb)).2.1 = 0 ∧ (parseD (ta ++ 10 :: tb)).1 = joinS (parseD ta).1 (parseD tb).1) ∧ checkD (parseD ta).1 = 0 ∧ checkD (parseD tb).1 = 0 := by
  obtain ⟨la, ea, ca, hsa⟩ : ∃ l e c, scanD ta = (l, e, c) := ⟨_, _, _, rfl⟩
  obtain ⟨lb, eb, cb, hsb⟩ : ∃ l e c, scanD tb = (l, e, c) := ⟨_, _, _, rfl⟩
  obtain ⟨lz, ez, cz, hsz⟩ : ∃ l e c, scanD (ta ++ 10 :: tb) = (l, e, c) := ⟨_, _, _, rfl⟩
  have hca : ca = 0 := Classical.byContradiction fun hc => by
    rw [parse_bad hsa hc] at h1
    exact hc (Int.ofNat.inj h1)
  have hcb : cb = 0 := Classical.byContradiction fun hc => by
    rw [parse_bad hsb hc] at h2
    exact hc (Int.ofNat.inj h2)
  subst hca hcb
  obtain ⟨_, _, hpk, _, _, _⟩ := scan_pairs hsa hsb hsz hla hlb
  obtain ⟨hcz, _, hk⟩ := hpk rfl rfl
  subst hcz
  have hg := ((parse_good hsa).1 h1).1
  have hgb := ((parse_good hsb).1 h2).1
  obtain ⟨a1, a2⟩ := parse_of hsa
  obtain ⟨b1, b2⟩ := parse_of hsb
  obtain ⟨z1, z2⟩ := parse_of hsz
  have e := Ali.read (wideP := numD) (Ali.of hk)
  rw [e] at z1 z2
  rw [a2] at h1
  rw [b2] at h2
  have hj := join_read (wideP := numD) (scan_end hsa).1 (scan_end hsb).1 h1 h2
  refine ⟨?_, ?_, hg, hgb⟩
  · rw [a1, b1, z2]; exact hj.1
  · rw [a1, b1, z1, z2]; exact hj.2
theorem nodesV_take (es : List NodeD) : ∀ (ds : List NodeD) (xs : List NodeA), ds.length ≤ xs.length → (nodesV (ds ++ es) xs).take (ds.length * 18) = nodesV ds (xs.take ds.length)
  | [], xs, h => by simp [nodesV]
  | d :: ds, [], h => by simp at h
  | d :: ds, x :: xs, h => by
    have ih := nodesV_take es ds xs (by simpa using h)
    rw [List.cons_append, List.length_cons, List.take_succ_cons]
    show (nodeV d x ++ nodesV (ds ++ es) xs).take ((ds.length + 1) * 18) = nodeV d x ++ nodesV ds (xs.take ds.length)
    rw [show (ds.length + 1) * 18 = (nodeV d x).length + ds.length * 18 by show _ = 18 + _; omega, List.take_length_add_append, ih]
theorem defsV_take (ds es : List DefD) : (defsV (ds ++ es)).take (ds.length * 2) = defsV ds := by
  rw [defsV, List.flatMap_append]
  exact List.take_left' (defsV_len ds)
/-- The front of what two texts are read as. -/
def frontA (x : SpecD) (a : SpecA) : SpecA := ⟨cutA a.na 0 a.nc 18, a.nc - 0, cutA a.da 0 a.dc 2, a.dc - 0, a.xs.take x.nodes.length⟩
theorem SpecOk.front {ro : Ro} {x y : SpecD} {a : SpecA} (h : SpecOk ro (joinS x y) a) : SpecOk ro x (frontA x a) := by
  have hxl : x.nodes.length ≤ a.xs.length := by rw [h.len]; simp [joinS]
  have hn := h.nodes.cut 0 x.nodes.length (Nat.zero_le _) (by simp [joinS])
  have hd := h.defs.cut 0 x.defs.length (Nat.zero_le _) (by simp [joinS])
  rw [Nat.zero_mul, List.drop_zero, Nat.sub_zero, Nat.sub_zero] at hn hd
  have e1 : (nodesV (joinS x y).nodes a.xs).take (x.nodes.length * 18) = nodesV x.nodes (a.xs.take x.nodes.length) := nodesV_take _ _ _ hxl
  have e2 : (defsV (joinS x y).defs).take (x.defs.length * 2) = defsV x.defs := defsV_take _ _
  rw [e1] at hn
  rw [e2] at hd
  refine ⟨?_, hn, fun i d z g1 g2 => ?_, hd⟩
  · show (a.xs.take x.nodes.length).length = _
    rw [List.length_take]; omega
  · have g2 : (a.xs.take x.nodes.length)[i]? = some z := g2
    have hi := (List.getElem?_eq_some_iff.1 g1).1
    rw [List.getElem?_take, if_pos hi] at g2
    refine h.each i d z ?_ g2
    show (x.nodes ++ _)[i]? = some d
    rw [List.getElem?_append_left hi]; exact g1
section
variable {ro : Ro} {own : Chs} {K : Value → Ro → Chs → Prop}
set_option maxHeartbeats 8000000 in
theorem pjoins_law {ta tb : List UInt8} (hS : SpOk ro) (hM : MaxOk ro) (hk : ∀ ro', K (.bool true) ro' own) : CallOk Tryz.prog 4 #[str ta, str tb] ro own K := by
  refine CallOk.intro (args := [_, _]) (rs := [_]) T_ok Tryz.func4 Tryz.call4 rfl rfl (by kernel_rfl) rfl rfl ?_
  repeat (first | exact endA | refine wkP ?_ | refine opB (fun b => ?_) | refine opA (fun a' c' hc1 hc2 => ?_) | (apply GJ.and; exact rfl; intro hg) | (apply GJ.or; exact rfl; intro hg))
  refine reads_ok hS hM (fun ro1 hl1 => ?_)
  repeat (first | exact endA | refine wkP ?_ | refine opB (fun b => ?_) | refine opA (fun a' c' hc1 hc2 => ?_) | (apply GJ.and; exact rfl; intro hg) | (apply GJ.or; exact rfl; intro hg))
  by_cases hbig : 1500 < ta.length ∨ 1500 < tb.length
  · refine Br.t (by omega) ?_
    repeat (first | exact endA | refine wkP ?_ | refine opB (fun b => ?_) | refine opA (fun a' c' hc1 hc2 => ?_) | (apply GJ.and; exact rfl; intro hg) | (apply GJ.or; exact rfl; intro hg))
    exact Wk.outS Sup.auto (.refl _) (hk ro1)
  refine Br.f (by omega) ?_
  have hS1 := hS.le hl1
  have hM1 := hM.le hl1
  repeat (first | exact endA | refine wkP ?_ | refine opB (fun b => ?_) | refine opA (fun a' c' hc1 hc2 => ?_) | (apply GJ.and; exact rfl; intro hg) | (apply GJ.or; exact rfl; intro hg))
  refine parse_ok hS1 hM1 (by omega) (fun ro2 a2 hl2 h2 => ?_)
  have hS2 := hS1.le hl2
  have hM2 := hM1.le hl2
  have hj := join_parse (ta := ta) (tb := tb) (by omega) (by omega)
  obtain ⟨X, hX⟩ : ∃ X, X = parseD ta := ⟨_, rfl⟩
  obtain ⟨Y, hY⟩ : ∃ Y, Y = parseD tb := ⟨_, rfl⟩
  rw [← hX, ← hY] at hj
  rw [← hX] at h2 ⊢
  obtain ⟨sx, cx, fx⟩ := X
  obtain ⟨sy, cy, fy⟩ := Y
  clear hX
  dsimp only at h2 hj ⊢
  repeat (first | exact endA | refine wkP ?_ | refine opB (fun b => ?_) | refine opA (fun a' c' hc1 hc2 => ?_) | (apply GJ.and; exact rfl; intro hg) | (apply GJ.or; exact rfl; intro hg))
  refine parse_ok hS2 hM2 (by omega) (fun ro3 a3 hl3 h3 => ?_)
  rw [← hY] at h3 ⊢
  clear hY
  dsimp only at h3 ⊢
  have hS3 := hS2.le hl3
  have hM3 := hM2.le hl3
  repeat (first | exact endA | refine wkP ?_ | refine opB (fun b => ?_) | refine opA (fun a' c' hc1 hc2 => ?_) | (apply GJ.and; exact rfl; intro hg) | (apply GJ.or; exact rfl; intro hg))
  refine ⟨by rw [List.length_singleton]; omega, ?_⟩
  repeat (first | exact endA | refine wkP ?_ | refine opB (fun b => ?_) | refine opA (fun a' c' hc1 hc2 => ?_) | (apply GJ.and; exact rfl; intro hg) | (apply GJ.or; exact rfl; intro hg))
  refine ⟨by rw [List.length_append, List.length_singleton]; omega, ?_⟩
  rw [List.append_assoc, List.singleton_append]
  repeat (first | exact endA | refine wkP ?_ | refine opB (fun b => ?_) | refine opA (fun a' c' hc1 hc2 => ?_) | (apply GJ.and; exact rfl; intro hg) | (apply GJ.or; exact rfl; intro hg))
  refine parse_ok hS3 hM3 (by rw [List.length_append, List.length_cons]; omega) (fun ro4 a4 hl4 h4 => ?_)
  obtain ⟨Z, hZ⟩ : ∃ Z, Z = parseD (ta ++ 10 :: tb) := ⟨_, rfl⟩
  rw [← hZ] at h4 hj ⊢
  obtain ⟨sz, cz, fz⟩ := Z
  clear hZ
  dsimp only at h4 hj ⊢
  have h24 := (h2.up hl3).up hl4
  have h34 := h3.up hl4
  clear h2 h3 hl2 hl3 hl4 hS hM hS1 hM1 hS2 hM2 hS3 hM3
  repeat (first | exact endA | refine wkP ?_ | refine opB (fun b => ?_) | refine opA (fun a' c' hc1 hc2 => ?_) | (apply GJ.and; exact rfl; intro hg) | (apply GJ.or; exact rfl; intro hg))
  by_cases hf : cx ≠ 0 ∨ cy ≠ 0
  · refine Br.t (by omega) ?_
    repeat (first | exact endA | refine wkP ?_ | refine opB (fun b => ?_) | refine opA (fun a' c' hc1 hc2 => ?_) | (apply GJ.and; exact rfl; intro hg) | (apply GJ.or; exact rfl; intro hg))
    exact Wk.outS Sup.auto (.refl _) (hk _)
  obtain ⟨rfl, rfl⟩ : cx = 0 ∧ cy = 0 := by omega
  refine Br.f (by omega) ?_
  obtain ⟨j1, j2, j3, j4⟩ := hj rfl rfl
  clear hj hf
  obtain ⟨_, _, _, _, l1, l2, _, _⟩ := checkD_ok j3
  obtain ⟨_, _, _, _, l3, l4, _, _⟩ := checkD_ok j4
  repeat (first | exact endA | refine wkP ?_ | refine opB (fun b => ?_) | refine opA (fun a' c' hc1 hc2 => ?_) | (apply GJ.and; exact rfl; intro hg) | (apply GJ.or; exact rfl; intro hg))
  by_cases hov : 2048 < sx.nodes.length + sy.nodes.length ∨ 64 < sx.defs.length + sy.defs.length
  · obtain rfl := j1 hov
    clear j1 j2
    refine Br.t (by omega) ?_
    repeat (first | exact endA | refine wkP ?_ | refine opB (fun b => ?_) | refine opA (fun a' c' hc1 hc2 => ?_) | (apply GJ.and; exact rfl; intro hg) | (apply GJ.or; exact rfl; intro hg))
    exact Wk.outV Sup.auto (hk _) (congrArg Value.bool (by simp))
  obtain ⟨rfl, rfl⟩ := j2 hov
  clear j1 j2
  refine Br.f (by omega) ?_
  have e1 : (joinS sx sy).nodes.length = sx.nodes.length + sy.nodes.length := by simp [joinS]
  have e2 : (joinS sx sy).defs.length = sx.defs.length + sy.defs.length := by simp [joinS]
  have hn1 := h4.nodes.le
  have hd1 := h4.defs.le
  have hfr := h4.front
  have e3 : (.agg #[.slice (cutA a4.na (Int.toNat 0) a4.nc 18) ((sx.nodes.length : Int).toNat - Int.toNat 0) (a4.nc - Int.toNat 0), .slice (cutA a4.da (Int.toNat 0) a4.dc 2) ((sx.defs.length : Int).toNat - Int.toNat 0) (a4.dc - Int.toNat 0)] : Value) = .agg (specV sx (frontA sx a4)).toArray := by
    unfold specV frontA
    simp only [Int.toNat_natCast, Int.toNat_zero, Nat.sub_zero]
  repeat (first | exact endA | refine wkP ?_ | refine opB (fun b => ?_) | refine opA (fun a' c' hc1 hc2 => ?_) | (apply GJ.and; exact rfl; intro hg) | (apply GJ.or; exact rfl; intro hg))
  refine args_eq (bs := #[.agg (specV sx (frontA sx a4)).toArray, .agg (specV sx a2).toArray]) (congrArg (fun z => #[z, Value.agg (specV sx a2).toArray]) e3) ?_
  refine msame_ok hfr h24 (Ahead.of j3) (defs_inP j3) ?_
  repeat (first | exact endA | refine wkP ?_ | refine opB (fun b => ?_) | refine opA (fun a' c' hc1 hc2 => ?_) | (apply GJ.and; exact rfl; intro hg) | (apply GJ.or; exact rfl; intro hg))
  exact Wk.outS Sup.auto (.refl _) (hk _)
end
end Go.Proofs.YtepdapdekaiioaaGreatDoor
end
section
/- A law's frame where the world's shape is kept; what MaxLen holds. -/
namespace Go.Proofs.YtepdapdekaiioaaGreatDoor
open Go Go.E
set_option linter.unusedVariables false
set_option linter.unusedSectionVars false
variable {H : Type} {enc : TypeId × Value → H}
theorem returnsS {a : Assume} {C : Checked} {os : Os} {f : FuncId} {fn : Func} {s : ChangeSpec} {conds : List PathCond} {apart fresh handsOn again : Bool} {X : World → Array Value → Prop}
    (hX : ∀ (w w' : World) (args : Array Value), w.heap = w'.heap → X w args → X w' args)
    (own : ownKnob C.prog.godebug = none) (started : os.Started) (noInit : C.prog.inits.idxOf? f = none) (hfn : C.prog.funcs[f]? = some fn)
    (witness : ∃ (w : World) (tape : Tape) (i : Input), w.os = os ∧ (w.forCall tape i).Shaped C.prog ∧ i.vars = [] ∧ Input.okWide C.prog (w.forCall tape i) .any w.heap.size f i ∧
      ((s.pre enc C.prog fn conds apart (w.forCall tape i).memory i.args ∧ X (w.forCall tape i).memory i.args) ∧ sizedMet enc C.prog fn (OpenSpec.ofChange s) apart (w.forCall tape i).memory i.args) ∧ a.holds C.prog (lone (Frame.enter C.prog f i.args .normal) [] (w.forCall tape i)))
    (contract : ∀ (W : World) (base : Nat) (args : Array Value) (ds gs : List (DataW H)) (before : List MemPlace),
      (∀ (j : Nat) t v, fn.params[j]? = some t → args[j]? = some v → Value.okWide C.prog W .any base t v) →
      DataW.Whole enc C.prog fn.params.toList s.vars apart W args.toList ds gs before →
      conds.all (PathCond.test C.prog ⟨fn.params.toList, ds, s.plain.varTypes C.prog, gs⟩) = true →
      (DataW.weightsEach C.prog (fn.params.toList ++ s.plain.varTypes C.prog) (ds ++ gs)).all (· ≤ reachBytes) = true → X W args → W.ShapedOpen C.prog →
      a.holds C.prog (lone (Frame.enter C.prog f args .normal) [] W) →
      Calls C.prog f args W fun e W' => ∃ v, e = .returned v ∧ s.post enc C.prog fn apart fresh handsOn again W args v W') :
    ReturnsInHanded a C os f .any (fun w args => (s.pre enc C.prog fn conds apart w args ∧ X w args) ∧ sizedMet enc C.prog fn (OpenSpec.ofChange s) apart w args) (s.post enc C.prog fn apart fresh handsOn again) := by
  refine returnsInHanded_of_calls own started noInit witness (fun w tape i _ hshape _ hok hpre hh => ?_)
  obtain ⟨_, _, _, fn2, hfn2, _, _, _, _, hval⟩ := hok
  obtain rfl : fn2 = fn := Option.some.inj (hfn2.symm.trans hfn)
  obtain ⟨⟨⟨ds, gs, before, hw, hc⟩, hx⟩, hz⟩ := hpre
  refine (contract (w.forCall tape i) w.heap.size i.args ds gs before hval (DataW.Whole.of_heap (w' := w.forCall tape i) (by rfl) hw) hc (hz.weights hw) (hX _ _ _ (by rfl) hx) hshape hh).mono fun e W' ⟨v, he, hp⟩ => ?_
  subst he
  exact ChangeSpec.post_blind hp
theorem MaxOk.ofShape {W : World} (h : W.ShapedOpen Tryz.prog) : MaxOk (hm W.heap) := by
  obtain ⟨m, hc⟩ := Go.Proofs.cell_of_shapedOpen_int (g := 2) (t := 3) (k := .i64) (zero := #[.int .i64 0]) h (of_decide_eq_true (by kernel_rfl)) (by kernel_rfl) rfl (by kernel_rfl) (by kernel_rfl) Tryz.underlying3
  refine ⟨m, fun own hp hs => ?_⟩
  obtain ⟨cs, hh, hz, _⟩ := h.1 2 #[.int .i64 0] 3 (of_decide_eq_true (by kernel_rfl)) (by kernel_rfl)
  have h1 := hs.last 2 _ (show hm W.heap 2 = some _ from hh)
  rw [cellAt_of h1]
  simpa [World.cell?, hh] using hc
end Go.Proofs.YtepdapdekaiioaaGreatDoor
end
section
/- Plain: the types of a specification are met each once, from its names on. -/
namespace Go.Proofs.YtepdapdekaiioaaGreatDoor
open Go Go.E
set_option linter.unusedVariables false
set_option linter.unusedSimpArgs false
structure OwnRel (E : List Int) (o o' : List Bool) : Prop where
  len : o'.length = o.length
  nd : E.Nodup
  mem : ∀ k ∈ E, 0 ≤ k ∧ k.toNat < o.length ∧ o[k.toNat]! = false
  own : ∀ j : Nat, j < o.length → (o'[j]! = true ↔ o[j]! = true ∨ (j : Int) ∈ E)
theorem OwnRel.nil (o : List Bool) : OwnRel [] o o := ⟨rfl, .nil, fun k h => (by cases h), fun j _ => by simp⟩
theorem OwnRel.append {E F : List Int} {o o1 o2 : List Bool} (h : OwnRel E o o1) (k : OwnRel F o1 o2) : OwnRel (E ++ F) o o2 := by
  refine ⟨k.len.trans h.len, List.nodup_append.2 ⟨h.nd, k.nd, fun a ha b hb e => ?_⟩, fun a ha => ?_, fun j hj => ?_⟩
  · subst e
    obtain ⟨h1, h2, h3⟩ := h.mem a ha
    obtain ⟨k1, k2, k3⟩ := k.mem a hb
    have := (h.own a.toNat h2).2 (.inr (by rwa [Int.toNat_of_nonneg h1]))
    rw [this] at k3; cases k3
  · rcases List.mem_append.1 ha with ha | ha
    · exact h.mem a ha
    · obtain ⟨k1, k2, k3⟩ := k.mem a ha
      have h2 : a.toNat < o.length := by rw [← h.len]; exact k2
      refine ⟨k1, h2, ?_⟩
      cases e : o[a.toNat]! with
      | false => rfl
      | true => have := (h.own a.toNat h2).2 (.inl e); rw [this] at k3; cases k3
  · rw [k.own j (by rw [h.len]; exact hj), h.own j hj, List.mem_append, or_assoc]
theorem OwnRel.of {lim : Nat} : ∀ {ks : List Int} {o o' : List Bool}, lim ≤ o.length → ownAll lim ks o = .ok o' → OwnRel ks o o'
  | [], o, o', _, h => by simp [ownAll] at h; subst h; exact OwnRel.nil _
  | k :: ks, o, o', hl, h => by
    unfold ownAll at h
    split at h
    · cases h
    · rename_i h1
      split at h
      · cases h
      · rename_i h2
        have hk : k.toNat < o.length := by omega
        have ih := OwnRel.of (by simpa using hl) h
        have one : OwnRel [k] o (o.set k.toNat true) := by
          refine ⟨by simp, by simp, fun a ha => ?_, fun j hj => ?_⟩
          · simp only [List.mem_singleton] at ha; subst ha
            exact ⟨by omega, hk, by simpa using h2⟩
          · by_cases e : j = k.toNat
            · subst e
              have : ((k.toNat : Nat) : Int) = k := Int.toNat_of_nonneg (by omega)
              simp [hj, this]
            · have hne : ¬ ((j : Int) = k) := fun h => e (by omega)
              simp [hj, List.getElem_set_ne (Ne.symm e), hne]
        have := one.append ih
        simpa using this
def rngI (n : Nat) : List Int := (List.range n).map fun (i : Nat) => (i : Int)
theorem mem_rngI {n : Nat} {k : Int} : k ∈ rngI n ↔ 0 ≤ k ∧ k < n := by
  unfold rngI
  simp only [List.mem_map, List.mem_range]
  refine ⟨fun ⟨i, h, e⟩ => by omega, fun h => ⟨k.toNat, by omega, by omega⟩⟩
theorem rngI_nodup (n : Nat) : (rngI n).Nodup := by
  unfold rngI
  rw [List.nodup_iff_pairwise_ne, List.pairwise_map]
  exact List.Pairwise.imp (fun h e => h (by omega)) List.nodup_range
theorem rngI_succ (n : Nat) : rngI (n + 1) = rngI n ++ [(n : Int)] := by simp [rngI, List.range_succ]
theorem OwnRel.perm {E : List Int} {n : Nat} {o' : List Bool} (h : OwnRel E (List.replicate n false) o') (ho : false ∉ o') : E.Perm (rngI n) := by
  rw [List.perm_ext_iff_of_nodup h.nd (rngI_nodup n)]
  intro k
  rw [mem_rngI]
  refine ⟨fun hk => ?_, fun hk => ?_⟩
  · obtain ⟨h1, h2, _⟩ := h.mem k hk
    simp at h2; omega
  · have hl := h.len
    have h1 := (h.own k.toNat (by simp; omega)).1 (by
      have hlt : k.toNat < o'.length := by rw [hl]; simp; omega
      have : o'[k.toNat]! = o'[k.toNat] := by simp [hlt]
      rw [this]
      cases e : o'[k.toNat] with
      | true => rfl
      | false => exact absurd (e ▸ List.getElem_mem hlt) ho)
    rcases h1 with h1 | h1
    · have hlt : k.toNat < n := by omega
      simp [hlt] at h1
    · rwa [Int.toNat_of_nonneg hk.1] at h1
/-- A tree's nodes, it ahead of its parts. -/
def preI (kd : Nat → List Int) : Nat → Int → List Int
  | 0, _ => []
  | f + 1, a => a :: (kd a.toNat).flatMap (preI kd f)
theorem flatMap_congr' {α β : Type} {f g : α → List β} : ∀ {l : List α}, (∀ x ∈ l, f x = g x) → l.flatMap f = l.flatMap g
  | [], _ => rfl
  | x :: l, h => by rw [List.flatMap_cons, List.flatMap_cons, h x (by simp), flatMap_congr' fun y hy => h y (by simp [hy])]
theorem preI_more {kd : Nat → List Int} (hk : ∀ i k, k ∈ kd i → 0 ≤ k ∧ k < (i : Int)) : ∀ (f g : Nat) (a : Int), 0 ≤ a → a < f → a < g → preI kd f a = preI kd g a
  | 0, _, a, h0, h1, _ => by omega
  | _, 0, a, h0, _, h1 => by omega
  | f + 1, g + 1, a, h0, h1, h2 => by
    unfold preI
    rw [flatMap_congr' fun k hk' => preI_more hk f g k (hk _ _ hk').1 (by have := (hk _ _ hk').2; omega) (by have := (hk _ _ hk').2; omega)]
theorem pre_perm {kd : Nat → List Int} (hk : ∀ i k, k ∈ kd i → 0 ≤ k ∧ k < (i : Int)) {N : Nat} : ∀ (m : Nat) (L : List Int), m ≤ N → (L ++ (List.range m).flatMap kd).Perm (rngI m) → (L.flatMap (preI kd N)).Perm (rngI m)
  | 0, L, _, h => by
    have : L = [] := by
      have := h.length_eq
      simp [rngI] at this; exact this
    subst this; exact .refl _
  | m + 1, L, hm, h => by
    rw [List.range_succ, List.flatMap_append, rngI_succ] at h
    have hmem : (m : Int) ∈ L := by
      have : (m : Int) ∈ L ++ ((List.range m).flatMap kd ++ [m].flatMap kd) := h.mem_iff.2 (by simp)
      rcases List.mem_append.1 this with h1 | h1
      · exact h1
      · exfalso
        rcases List.mem_append.1 h1 with h1 | h1
        · obtain ⟨i, hi, h2⟩ := List.mem_flatMap.1 h1
          have := (hk i _ h2).2; have := List.mem_range.1 hi; omega
        · obtain ⟨i, hi, h2⟩ := List.mem_flatMap.1 h1
          simp only [List.mem_singleton] at hi; subst hi
          have := (hk _ _ h2).2; omega
    have hp := List.perm_cons_erase hmem
    have ih := pre_perm hk (N := N) m (L.erase (m : Int) ++ kd m) (by omega) (by
      have h1 : ((m : Int) :: (L.erase (m : Int) ++ ((List.range m).flatMap kd ++ [m].flatMap kd))).Perm ((m : Int) :: rngI m) := by
        refine ((hp.symm.append_right _).trans h).trans ?_
        exact List.perm_append_comm
      have h2 := (List.perm_cons _).1 h1
      refine .trans ?_ h2
      rw [List.append_assoc]
      refine .append_left _ ?_
      rw [List.flatMap_singleton]
      exact List.perm_append_comm)
    have e : preI kd N (m : Int) = (m : Int) :: (kd m).flatMap (preI kd N) := by
      rw [preI_more hk N (N + 1) m (by omega) (by omega) (by omega)]
      rfl
    refine (hp.flatMap_right _).trans ?_
    rw [List.flatMap_cons, e, rngI_succ]
    rw [List.cons_append]
    refine .trans ?_ (List.perm_append_comm (l₁ := [(m : Int)]))
    refine .cons _ (.trans ?_ ih)
    rw [List.flatMap_append]
    exact List.perm_append_comm
theorem OwnRel.nodes : ∀ (ds : List NodeD) (n : Nat) (o o' : List Bool), n + ds.length ≤ o.length → nodesAll n ds o = .ok o' → OwnRel (ds.flatMap kidsD) o o'
  | [], n, o, o', _, h => by simp [nodesAll] at h; subst h; exact OwnRel.nil _
  | d :: ds, n, o, o', hl, h => by
    rw [nodesAll] at h
    split at h
    · cases h
    · cases ho : ownAll n (kidsD d) o with
      | error e => rw [ho] at h; cases h
      | ok o1 =>
        rw [ho] at h
        simp only [List.length_cons] at hl
        have h1 := OwnRel.of (by omega) ho
        rw [List.flatMap_cons]
        exact h1.append (OwnRel.nodes ds (n + 1) o1 o' (by rw [h1.len]; omega) h)
def kidsAt (s : SpecD) (i : Nat) : List Int := match s.nodes[i]? with
  | some d => kidsD d
  | none => []
theorem kidsAt_all (s : SpecD) : (List.range s.nodes.length).flatMap (kidsAt s) = s.nodes.flatMap kidsD := by
  have key : ∀ (l : List NodeD) (f : Nat → List Int), (∀ i d, l[i]? = some d → f i = kidsD d) → (List.range l.length).flatMap f = l.flatMap kidsD := by
    intro l
    induction l with
    | nil => intro f _; rfl
    | cons d l ih =>
      intro f hf
      rw [List.length_cons, List.range_succ_eq_map, List.flatMap_cons, List.flatMap_cons, hf 0 d rfl, List.flatMap_map]
      congr 1
      exact ih (fun i => f (i + 1)) (fun i e h => hf (i + 1) e (by simpa using h))
  exact key s.nodes _ (fun i d h => by unfold kidsAt; rw [h])
theorem Ahead.kidsAt {s : SpecD} (h : Ahead s) (i : Nat) (k : Int) (hk : k ∈ kidsAt s i) : 0 ≤ k ∧ k < (i : Int) := by
  unfold Go.Proofs.YtepdapdekaiioaaGreatDoor.kidsAt at hk
  split at hk
  · rename_i d hd; exact (h i d hd).2 k hk
  · cases hk
/-- All types, from the names on. -/
def allT (s : SpecD) : List Int := (s.defs.map (·.type)).flatMap (preI (kidsAt s) s.nodes.length)
theorem allT_perm {s : SpecD} (h : checkD s = 0) : (allT s).Perm (rngI s.nodes.length) := by
  obtain ⟨o, o', h1, h2, _, _, _, h3⟩ := checkD_ok h
  have r1 := OwnRel.nodes s.nodes 0 _ o (by simp) h1
  have r2 := OwnRel.of (by rw [r1.len]; simp) h2
  have hp := (r1.append r2).perm h3
  refine pre_perm (Ahead.of h).kidsAt _ _ (Nat.le_refl _) ?_
  rw [kidsAt_all]
  exact List.perm_append_comm.trans hp
theorem allT_len {s : SpecD} (h : checkD s = 0) : (allT s).length = s.nodes.length := by
  rw [(allT_perm h).length_eq]; simp [rngI]
/-! ### a walk that may be stopped -/
def runG (go : List Int → Bool) : List Int → List Int → Bool × List Int
  | p, [] => (true, p)
  | p, k :: l => if go (p ++ [k]) then runG go (p ++ [k]) l else (false, p ++ [k])
theorem runG_true {go : List Int → Bool} : ∀ {l p : List Int}, (runG go p l).1 = true → (runG go p l).2 = p ++ l
  | [], p, _ => by simp [runG]
  | k :: l, p, h => by
    unfold runG at h ⊢
    split at h
    · rename_i hg; rw [if_pos hg, runG_true h]; simp
    · cases h
theorem runG_append {go : List Int → Bool} : ∀ (l m p : List Int), runG go p (l ++ m) = if (runG go p l).1 then runG go (p ++ l) m else runG go p l
  | [], m, p => by simp [runG]
  | k :: l, m, p => by
    rw [List.cons_append, runG]
    by_cases hg : go (p ++ [k]) = true
    · rw [if_pos hg, runG_append l m (p ++ [k])]
      conv => rhs; rw [runG, if_pos hg]
      rw [show p ++ [k] ++ l = p ++ k :: l by simp]
    · rw [if_neg hg]
      conv => rhs; rw [runG, if_neg hg]
      rfl
theorem runG_all {go : List Int → Bool} : ∀ {l p : List Int}, (∀ q, go q = true) → runG go p l = (true, p ++ l)
  | [], p, _ => by simp [runG]
  | k :: l, p, h => by rw [runG, if_pos (h _), runG_all h]; simp
end Go.Proofs.YtepdapdekaiioaaGreatDoor
end
section
/- Contracts of spec: Each. -/
namespace Go.E
open Go
theorem Repl.app (G : Chs) {l : Chs} {c x : Chunk} {l' : Chs} (h : Repl l c x l') : Repl (G ++ l) c x (G ++ l') := by
  induction G with
  | nil => exact h
  | cons y G ih => exact .miss y ih
instance HasBlk.app (G l : Chs) (b : Nat) (t : TypeId) (cs : List Value) (f : Chunk → Chs) [h : HasBlk l b t cs f] : HasBlk (G ++ l) b t cs (fun x => G ++ f x) := ⟨fun x => (h.repl x).app G⟩
instance HasSl.app (G l : Chs) (a : Option Addr) (n c : Nat) (t : TypeId) (s : Nat) (cs : List Value) (f : Chunk → Chs) [h : HasSl l a n c t s cs f] : HasSl (G ++ l) a n c t s cs (fun x => G ++ f x) := ⟨fun x => (h.repl x).app G⟩
end Go.E
namespace Go.Proofs.YtepdapdekaiioaaGreatDoor
open Go Go.E
set_option linter.unusedVariables false
set_option linter.unusedSimpArgs false
set_option maxRecDepth 10000
theorem preI_eq {kd : Nat → List Int} (hk : ∀ i k, k ∈ kd i → 0 ≤ k ∧ k < (i : Int)) {N : Nat} {i : Nat} (hi : i < N) : preI kd N (i : Int) = (i : Int) :: (kd i).flatMap (preI kd N) := by
  rw [preI_more hk N (N + 1) i (by omega) (by omega) (by omega)]
  rfl
section
variable {ro : Ro}
set_option maxHeartbeats 2000000 in
theorem each_ok {s : SpecD} {a : SpecA} (ho : SpecOk ro s a) (hv : Ahead s) {fy : FuncId} {cap : Array Value} {ω : Type} {go : List Int → Bool} {T : List Int} (O : List Int → ω → Chs) (W : List Int → ω → Prop)
    (hy : ∀ p k r, T = p ++ k :: r → ∀ w, W p w → ∀ (ro' : Ro) (G : Chs) (K : Value → Ro → Chs → Prop) [Leq ro ro'], (∀ w', W (p ++ [k]) w' → K (.bool (go (p ++ [k]))) ro' (G ++ O (p ++ [k]) w')) → CallOk Tryz.prog fy (capA [.int .i64 k] cap) ro' (G ++ O p w) K) :
    ∀ (n i : Nat), i < n → i < s.nodes.length → ∀ (p r : List Int), T = p ++ preI (kidsAt s) s.nodes.length i ++ r → ∀ w, W p w → ∀ (ro' : Ro) (G : Chs) (K : Value → Ro → Chs → Prop) [Leq ro ro'],
      (∀ w', W (runG go p (preI (kidsAt s) s.nodes.length i)).2 w' → K (.bool (runG go p (preI (kidsAt s) s.nodes.length i)).1) ro' (G ++ O (runG go p (preI (kidsAt s) s.nodes.length i)).2 w')) →
      CallOk Tryz.prog 14 #[.agg (specV s a).toArray, .int .i64 (i : Int), .func (.func fy) #[] cap] ro' (G ++ O p w) K := by
  intro n
  induction n with
  | zero => intro i h; omega
  | succ n ih =>
    intro i hin hi p r hT w hw ro' G K hle hk
    have hr1 : Rs ro' a.na s.nodes.length a.nc 18 (nodesV s.nodes a.xs) := ho.nodes.up
    have hm := hr1.max
    unfold maxLen at hm
    obtain ⟨d, hd⟩ : ∃ d, s.nodes[i]? = some d := ⟨_, List.getElem?_eq_getElem hi⟩
    obtain ⟨x, hx⟩ : ∃ x, a.xs[i]? = some x := ⟨_, List.getElem?_eq_getElem (by rw [ho.len]; exact hi)⟩
    have hn1 := ho.each i d x hd hx
    have hN1 : NodeOk ro' d x := ⟨hn1.kids.up, hn1.last.up, hn1.fields.up, hn1.cases.up⟩
    have hdr1 := nodesV_drop _ _ _ _ _ hd hx
    obtain ⟨hf, hks⟩ := hv i d hd
    have hsm := form_small hf
    have hkd : kidsAt s i = kidsD d := by unfold kidsAt; rw [hd]
    rw [preI_eq hv.kidsAt hi, hkd] at hT hk
    refine CallOk.intro (args := [_, _, _]) (rs := [_]) T_ok Tryz.func14 Tryz.call14 rfl rfl (by kernel_rfl) rfl rfl ?_
    repeat (first | exact endA | refine wkT ?_ | refine opB (fun b => ?_) | refine opA (fun a' c' hc1 hc2 => ?_) | (apply GJ.and; exact rfl; intro hg) | (apply GJ.or; exact rfl; intro hg))
    refine hy p (i : Int) ((kidsD d).flatMap (preI (kidsAt s) s.nodes.length) ++ r) (by rw [hT]; simp) w hw ro' (.blk b 26 (specV s a) :: G) _ (fun w1 hw1 => ?_)
    cases hg : go (p ++ [(i : Int)]) with
    | false =>
      rw [runG, if_neg (by rw [hg]; simp)] at hk
      repeat (first | exact endA | refine wkT ?_ | refine opB (fun b => ?_) | refine opA (fun a' c' hc1 hc2 => ?_) | (apply GJ.and; exact rfl; intro hg) | (apply GJ.or; exact rfl; intro hg))
      exact Wk.own (G ++ O (p ++ [(i : Int)]) w1) (Sup.drop _ (Sup.all _)) (Wk.id (hk w1 hw1))
    | true =>
      rw [runG, if_pos hg] at hk
      rw [List.cons_append]
      repeat (first | exact endA | refine wkT ?_ | refine opB (fun b => ?_) | refine opA (fun a' c' hc1 hc2 => ?_) | (apply GJ.and; exact rfl; intro hg) | (apply GJ.or; exact rfl; intro hg))
      rw [Int.toNat_natCast]
      refine OpOk.loadRow rfl rfl (LdN.at hr1 hdr1) rfl ?_
      repeat (first | exact endA | refine wkT ?_ | refine opB (fun b => ?_) | refine opA (fun a' c' hc1 hc2 => ?_) | (apply GJ.and; exact rfl; intro hg) | (apply GJ.or; exact rfl; intro hg))
      refine kids_ok hN1 (by omega) (fun a1 n1 c1 h1 h2 h3 => ?_)
      subst h1
      have hkl : (kidsD d).length ≤ 1000 := by unfold kidsD; split <;> simp <;> omega
      repeat (first | exact endA | refine wkT ?_ | refine opB (fun b => ?_) | refine opA (fun a' c' hc1 hc2 => ?_) | (apply GJ.and; exact rfl; intro hg) | (apply GJ.or; exact rfl; intro hg))
      refine LoopOk.at (ι := Nat × ω) Keep.auto (fun (j, w) => [(20, .int .i64 (j : Int))]) (fun (j, w) => .sl a1 (kidsD d).length c1 3 1 (kidsV (kidsD d)) :: .blk b 26 (specV s a) :: (G ++ O (p ++ [(i : Int)] ++ ((kidsD d).take j).flatMap (preI (kidsAt s) s.nodes.length)) w)) (fun (j, w) => j ≤ (kidsD d).length ∧ W (p ++ [(i : Int)] ++ ((kidsD d).take j).flatMap (preI (kidsAt s) s.nodes.length)) w ∧ (runG go (p ++ [(i : Int)]) (((kidsD d).take j).flatMap (preI (kidsAt s) s.nodes.length))).1 = true) (fun (j, w) => (kidsD d).length - j) (0, w1) ?_ Sub.auto ?_ ?_
      · exact ⟨by omega, by simpa using hw1, rfl⟩
      · simp only [List.take_zero, List.flatMap_nil, List.append_nil]
        exact Sup.all _
      rintro ⟨j, w2⟩ ⟨i1, i2, i3⟩
      dsimp only [List.cons_append, List.nil_append] at i1 i2 i3 ⊢
      repeat (first | exact endA | refine wkT ?_ | refine opB (fun b => ?_) | refine opA (fun a' c' hc1 hc2 => ?_) | (apply GJ.and; exact rfl; intro hg) | (apply GJ.or; exact rfl; intro hg))
      refine Br.cases (fun hlt => ?_) (fun hlt => ?_)
      · have hj : j < (kidsD d).length := by omega
        have hsplit : (kidsD d).take (j + 1) = (kidsD d).take j ++ [(kidsD d)[j]] := by rw [List.take_succ_eq_append_getElem hj]
        have hbang : (kidsD d)[((j : Nat) : Int).toNat]! = (kidsD d)[j] := by rw [Int.toNat_natCast]; simp [hj]
        obtain ⟨q1, q2⟩ := hks _ (List.getElem_mem hj)
        obtain ⟨k, hk0⟩ := Int.eq_ofNat_of_zero_le q1
        have hdrop : (kidsD d).drop (j + 1) = (kidsD d).drop (j + 1) := rfl
        have hall : kidsD d = (kidsD d).take j ++ (kidsD d)[j] :: (kidsD d).drop (j + 1) := by
          conv => lhs; rw [← List.take_append_drop j (kidsD d)]
          rw [List.drop_eq_getElem_cons hj]
        repeat (first | exact endA | refine wkT ?_ | refine opB (fun b => ?_) | refine opA (fun a' c' hc1 hc2 => ?_) | (apply GJ.and; exact rfl; intro hg) | (apply GJ.or; exact rfl; intro hg))
        rw [hbang, hk0]
        rw [hk0] at hsplit hall q2
        have hT2 : T = p ++ [(i : Int)] ++ ((kidsD d).take j).flatMap (preI (kidsAt s) s.nodes.length) ++ preI (kidsAt s) s.nodes.length (k : Int) ++ (((kidsD d).drop (j + 1)).flatMap (preI (kidsAt s) s.nodes.length) ++ r) := by
          rw [hT]
          conv => lhs; rw [hall]
          simp
        have hnext : runG go (p ++ [(i : Int)]) (((kidsD d).take (j + 1)).flatMap (preI (kidsAt s) s.nodes.length)) = runG go (p ++ [(i : Int)] ++ ((kidsD d).take j).flatMap (preI (kidsAt s) s.nodes.length)) (preI (kidsAt s) s.nodes.length (k : Int)) := by
          rw [hsplit, List.flatMap_append, runG_append, if_pos i3, List.flatMap_singleton]
        refine ih k (by omega) (by omega) (p ++ [(i : Int)] ++ ((kidsD d).take j).flatMap (preI (kidsAt s) s.nodes.length)) _ hT2 w2 i2 ro' (.sl a1 (kidsD d).length c1 3 1 (kidsV (kidsD d)) :: .blk b 26 (specV s a) :: G) _ (fun w3 hw3 => ?_)
        rw [← hnext] at hw3 ⊢
        rw [List.cons_append, List.cons_append]
        cases hb : (runG go (p ++ [(i : Int)]) (((kidsD d).take (j + 1)).flatMap (preI (kidsAt s) s.nodes.length))).1 with
        | true =>
          rw [runG_true hb] at hw3 ⊢
          repeat (first | exact endA | refine wkT ?_ | refine opB (fun b => ?_) | refine opA (fun a' c' hc1 hc2 => ?_) | (apply GJ.and; exact rfl; intro hg) | (apply GJ.or; exact rfl; intro hg))
          refine Wk.id ⟨(j + 1, w3), ⟨rfl, ?_⟩, ?_, Sub.auto, Sup.all _⟩
          · exact ⟨by omega, hw3, hb⟩
          · dsimp only; omega
        | false =>
          have hfin : runG go (p ++ [(i : Int)]) ((kidsD d).flatMap (preI (kidsAt s) s.nodes.length)) = runG go (p ++ [(i : Int)]) (((kidsD d).take (j + 1)).flatMap (preI (kidsAt s) s.nodes.length)) := by
            conv => lhs; rw [← List.take_append_drop (j + 1) (kidsD d)]
            rw [List.flatMap_append, runG_append, if_neg (by rw [hb]; simp)]
          have hk2 := hk w3 (by rw [hfin]; exact hw3)
          rw [hfin, hb] at hk2
          repeat (first | exact endA | refine wkT ?_ | refine opB (fun b => ?_) | refine opA (fun a' c' hc1 hc2 => ?_) | (apply GJ.and; exact rfl; intro hg) | (apply GJ.or; exact rfl; intro hg))
          exact Wk.own _ (Sup.drop _ (Sup.drop _ (Sup.all _))) (Wk.id hk2)
      · obtain rfl : j = (kidsD d).length := by omega
        rw [List.take_length] at *
        have hk2 := hk w2 (by rw [runG_true i3]; exact i2)
        rw [runG_true i3, i3] at hk2
        repeat (first | exact endA | refine wkT ?_ | refine opB (fun b => ?_) | refine opA (fun a' c' hc1 hc2 => ?_) | (apply GJ.and; exact rfl; intro hg) | (apply GJ.or; exact rfl; intro hg))
        exact Wk.own _ (Sup.drop _ (Sup.drop _ (Sup.all _))) (Wk.id hk2)
end
end Go.Proofs.YtepdapdekaiioaaGreatDoor
end
