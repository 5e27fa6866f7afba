/- Texts of a walk, one behind the other. -/
import Derived.HandedShaped
import Derived.Shelf.Vars
import Derived.Test.YtepdapdekaiioaaGreatDoorMg3
import Derived.Test.YtepdapdekaiioaaGreatDoorMg4
import Derived.Test.YtepdapdekaiioaaGreatDoorMg6
section
/- Contracts of the reader: types with a bar between two. -/
namespace Go.Proofs.YtepdapdekaiioaaGreatDoor
open Go Go.E
set_option linter.unusedVariables false
set_option linter.unusedSimpArgs false
set_option linter.unusedSectionVars false
set_option maxRecDepth 10000
section
variable {ro : Ro} {own q q1 q2 : Chs} {K : Value → Ro → Chs → Prop} {l : List TokD} {s : PS} {a : SpecA} {la : Option Addr} {lc r : Nat} {deep : Nat} {F : PS → Nat × PS}
theorem over_code {n : Nat} {s : PS} (hc : s.code = 0) (h : n = 64) : (overP n s).code ≠ 0 := by
  unfold overP wrongP
  rw [if_pos h, if_pos hc]
  exact (by decide : (2 : Nat) ≠ 0)
theorem rsUp {ro ro' : Ro} {a : Option Addr} {n c k : Nat} {cs : List Value} (hl : Le ro ro') (hr : Rs ro a n c k cs) : Rs ro' a n c k cs := by
  haveI : Leq ro ro' := ⟨hl.1⟩
  exact hr.up
set_option maxHeartbeats 8000000 in
theorem rchoice_ok {kd : Int} (hkd : kd = 10 ∨ kd = 11) (hF : KOk la lc r l ((deep : Int) + 1) F) (hst : ∀ s, s.code ≠ 0 → (F s).2.code ≠ 0) (hd : deep ≤ 100) (hM : MaxOk ro) (hT : ToksOk ro la lc l) (h : RdOk ro l s a) (t1 : Take own (rdC r la lc l s a) q1) (t2 : Take q1 (ndC s a) q2) (t3 : Take q2 (dfC s a) q)
    (hk : ∀ ro' a', Le ro ro' → RdOk ro' l (choiceP (listE l) F kd s).2 a' → K (.int .i64 ((choiceP (listE l) F kd s).1 : Int)) ro' (rdC r la lc l (choiceP (listE l) F kd s).2 a' :: ndC (choiceP (listE l) F kd s).2 a' :: dfC (choiceP (listE l) F kd s).2 a' :: q)) :
    CallOk Tryz.prog 93 #[ptr' r, .int .i64 kd, .int .i64 (deep : Int)] ro own K := by
  refine CallOk.perm (three t1 t2 t3) ?_
  unfold choiceP at hk
  refine CallOk.intro (args := [_, _, _]) (rs := [_]) T_ok Tryz.func93 Tryz.call93 rfl rfl (by kernel_rfl) rfl rfl ?_
  repeat (first | exact endA | refine wkP ?_ | refine opB (fun b => ?_) | refine opA (fun a' c' hc1 hc2 => ?_) | (apply GJ.and; exact rfl; intro hg) | (apply GJ.or; exact rfl; intro hg))
  obtain ⟨bN, hbN⟩ : ∃ z : Nat, z = b := ⟨_, rfl⟩
  subst hbN
  refine must3 (t := [123]) hT h Take.auto Take.auto Take.auto (fun h1 => ?_)
  generalize mustP (listE l) [123] s = s1 at *
  obtain ⟨R, hR⟩ : ∃ R, R = pickP (listE l) F kd s1 := ⟨_, rfl⟩
  rw [← hR] at hk
  unfold pickP at hR
  repeat (first | exact endA | refine wkP ?_ | refine opB (fun b => ?_) | refine opA (fun a' c' hc1 hc2 => ?_) | (apply GJ.and; exact rfl; intro hg) | (apply GJ.or; exact rfl; intro hg))
  refine LoopOk.auto (ι := Bool × List Int × List Bool × PS × SpecA × Option Addr × Nat × Option Addr × Nat) Keep.auto (fun (m, ks, ls, s, a, ka, kc, wa, wc) => [(8, .bool m)]) (fun (m, ks, ls, s, a, ka, kc, wa, wc) => rdC r la lc l s a :: ndC s a :: dfC s a :: .sl ka ks.length kc 3 1 (kidsV ks) :: .sl wa ls.length wc 4 1 (lastV ls) :: .blk bN 56 (nodeV { node0 with kind := kd, kids := ks, last := ls } { nodeZ with ka := ka, kc := kc, la := wa, lc := wc }) :: q) (fun (m, ks, ls, s, a, ka, kc, wa, wc) ro2 => RdOk ro2 l s a ∧ R = (if m = true ∧ s.code = 0 then choicesP (listE l) F kd (70 - ks.length) ks ls s else (ks, ls, s)) ∧ (ks.length ≤ 64 ∨ (ks.length = 65 ∧ s.code ≠ 0)) ∧ ls.length ≤ ks.length ∧ ks.length ≤ kc ∧ kc ≤ maxLen ∧ ls.length ≤ wc ∧ wc ≤ maxLen) (fun (m, ks, ls, s, a, ka, kc, wa, wc) => (70 - ks.length) + (if m = true then 1 else 0)) (true, [], [], s1, a, none, 0, none, 0) ?_ Sub.auto Sup.auto ?_
  · refine ⟨h1, ?_, .inl (Nat.zero_le _), Nat.le_refl _, Nat.le_refl _, Nat.zero_le _, Nat.le_refl _, Nat.zero_le _⟩
    rw [hR]
    by_cases hc : s1.code = 0
    · rw [if_pos hc, if_pos ⟨rfl, hc⟩]; rfl
    · rw [if_neg hc, if_neg (fun h => hc h.2)]
  clear h1 hR h
  rintro ⟨m, ks, ls, s, a, ka, kc, wa, wc⟩ ro2 hl2 ⟨i1, i2, i3, i4, i5, i6, i7, i8⟩
  dsimp only [List.cons_append, List.nil_append] at i1 i2 i3 i4 i5 i6 i7 i8 ⊢
  dsimp only [nodeV, node0, nodeZ]
  have hM2 := hM.le hl2
  have hT2 := hT.up hl2
  have hkl : (kidsV ks).length = ks.length * 1 := by simp [kidsV]
  have hwl : (lastV ls).length = ls.length * 1 := by simp [lastV]
  cases m with
  | false =>
    rw [if_neg (fun h => by cases h.1)] at i2
    subst i2
    dsimp only at hk
    repeat (first | exact endA | refine wkP ?_ | refine opB (fun b => ?_) | refine opA (fun a' c' hc1 hc2 => ?_) | (apply GJ.and; exact rfl; intro hg) | (apply GJ.or; exact rfl; intro hg))
    refine must3 (t := [125]) hT2 i1 Take.auto Take.auto Take.auto (fun g1 => ?_)
    generalize mustP (listE l) [125] s = z1 at *
    repeat (first | exact endA | refine wkP ?_ | refine opB (fun b => ?_) | refine opA (fun a' c' hc1 hc2 => ?_) | (apply GJ.and; exact rfl; intro hg) | (apply GJ.or; exact rfl; intro hg))
    refine CallOk.freeze (c := .sl ka _ _ 3 _ _) Take.auto (fun ro8 hl8 hc8 => ?_)
    refine CallOk.freeze (c := .sl wa _ _ 4 _ _) Take.auto (fun ro9 hl9 hc9 => ?_)
    refine radd_ok (d := { node0 with kind := kd, kids := ks, last := ls }) (x := { nodeZ with ka := ka, kc := kc, la := wa, lc := wc }) (hT2.up (hl8.trans hl9)) (g1.up (hl8.trans hl9)) ⟨rsUp hl9 (Rs.last hc8), Rs.last hc9, Rs.nil _ 5, Rs.nil _ 2⟩ ⟨by dsimp only; omega, by dsimp only; omega, by simp [node0], by simp [node0]⟩ Take.auto Take.auto Take.auto (fun ro4 a4 hl4 h4 => ?_)
    have hk2 := hk ro4 a4 (((hl2.trans hl8).trans hl9).trans hl4) h4
    repeat (first | exact endA | refine wkP ?_ | refine opB (fun b => ?_) | refine opA (fun a' c' hc1 hc2 => ?_) | (apply GJ.and; exact rfl; intro hg) | (apply GJ.or; exact rfl; intro hg))
    exact Wk.outS Sup.auto (.refl _) hk2
  | true =>
    by_cases hc : s.code = 0
    · rw [if_pos ⟨rfl, hc⟩] at i2
      repeat (first | exact endA | refine wkP ?_ | refine opB (fun b => ?_) | refine opA (fun a' c' hc1 hc2 => ?_) | (apply GJ.and; exact rfl; intro hg) | (apply GJ.or; exact rfl; intro hg))
      refine rok_ok i1 Take.auto ?_
      rw [decide_eq_true hc]
      rw [show 70 - ks.length = (69 - ks.length) + 1 by omega, choicesP] at i2
      repeat (first | exact endA | refine wkP ?_ | refine opB (fun b => ?_) | refine opA (fun a' c' hc1 hc2 => ?_) | (apply GJ.and; exact rfl; intro hg) | (apply GJ.or; exact rfl; intro hg))
      by_cases h64 : ks.length = 64
      · have hov := over_code hc h64
        rw [show overP ks.length s = wrongP 2 s from if_pos h64] at hov i2
        repeat (first | exact endA | refine wkP ?_ | refine opB (fun b => ?_) | refine opA (fun a' c' hc1 hc2 => ?_) | (apply GJ.and; exact rfl; intro hg) | (apply GJ.or; exact rfl; intro hg))
        refine wrong3 (e := 2) (by decide) (by decide) hT2 i1 Take.auto Take.auto Take.auto (fun h4 => ?_)
        generalize wrongP 2 s = s4 at *
        have hstf : (s4).code ≠ 0 → (signP (listE l) [124] (F (lastP (listE l) kd s4).2).2).2.code ≠ 0 := fun hh => by
          haveI := sticky_clo l
          exact (InP.sign (E := listE l) (I := fun s => s.code ≠ 0) ⟨hst _ (InP.last (E := listE l) (I := fun s => s.code ≠ 0) ⟨hh⟩ kd).get⟩ [124]).get
        rcases hkd with rfl | rfl
        · rw [show lastP (listE l) 10 s4 = (false, s4) from rfl, show lastsP 10 ls false = ls from rfl] at i2
          rw [show lastP (listE l) 10 s4 = (false, s4) from rfl] at hstf
          dsimp only at i2 hstf
          repeat (first | exact endA | refine wkG ?_ | refine opB (fun b => ?_) | refine opA (fun a' c' hc1 hc2 => ?_) | (show GJ _ _ _ _ _ _ _; first | (apply GJ.and; exact rfl; intro hg) | (apply GJ.or; exact rfl; intro hg) | refine GJ.t omAuto ?_ | refine GJ.f omAuto ?_ | refine GJ.ft omAuto ?_ | refine GJ.ff omAuto ?_))
          try refine SeqOk.pass ?_
          repeat (first | exact endA | refine wkG ?_ | refine opB (fun b => ?_) | refine opA (fun a' c' hc1 hc2 => ?_) | (show GJ _ _ _ _ _ _ _; first | (apply GJ.and; exact rfl; intro hg) | (apply GJ.or; exact rfl; intro hg) | refine GJ.t omAuto ?_ | refine GJ.f omAuto ?_ | refine GJ.ft omAuto ?_ | refine GJ.ff omAuto ?_))
          refine Bs.mk ⟨[.blk bN 56 [.int .i64 10, .int .i64 0, .bool false, .bool false, .bool false, .int .u64 ((0 : Nat) : Int), .int .u64 ((0 : Nat) : Int), str [], str [], .int .u64 ((0 : Nat) : Int), .int .u64 ((0 : Nat) : Int), .slice ka ks.length kc, .slice wa (ls).length wc, .slice none 0 0, str [], .int .u64 ((0 : Nat) : Int), .slice none 0 0, .int .i64 0]], Sup.auto, ?_⟩
          repeat (first | exact endA | refine wkG ?_ | refine opB (fun b => ?_) | refine opA (fun a' c' hc1 hc2 => ?_) | (show GJ _ _ _ _ _ _ _; first | (apply GJ.and; exact rfl; intro hg) | (apply GJ.or; exact rfl; intro hg) | refine GJ.t omAuto ?_ | refine GJ.f omAuto ?_ | refine GJ.ft omAuto ?_ | refine GJ.ff omAuto ?_))
          refine hF.run hM2 hT2 h4 Take.auto Take.auto Take.auto (fun ro3 a3 hl3 h6 => ?_)
          generalize F s4 = y at *
          obtain ⟨kn, s6⟩ := y
          dsimp only at h6 i2 hstf ⊢
          refine wkS ?_
          refine opB (fun b2 => ?_)
          refine wkS ?_
          repeat (first | exact endA | refine wkG ?_ | refine opB (fun b => ?_) | refine opA (fun a' c' hc1 hc2 => ?_) | (show GJ _ _ _ _ _ _ _; first | (apply GJ.and; exact rfl; intro hg) | (apply GJ.or; exact rfl; intro hg) | refine GJ.t omAuto ?_ | refine GJ.f omAuto ?_ | refine GJ.ft omAuto ?_ | refine GJ.ff omAuto ?_))
          have e2 : kidsV ks ++ [Value.int .i64 (kn : Int)] = kidsV (ks ++ [(kn : Int)]) := by simp [kidsV, flat, Value.cells]
          have e1 : ks.length + 1 = (ks ++ [(kn : Int)]).length := by simp
          rw [e2]
          rw [e1] at hc1 ⊢
          repeat (first | exact endA | refine wkP ?_ | refine opB (fun b => ?_) | refine opA (fun a' c' hc1 hc2 => ?_) | (apply GJ.and; exact rfl; intro hg) | (apply GJ.or; exact rfl; intro hg))
          refine sign3 (t := [124]) (hT2.up hl3) h6 Take.auto Take.auto Take.auto (fun h7 => ?_)
          generalize signP (listE l) [124] s6 = z at *
          obtain ⟨gb, s7⟩ := z
          dsimp only at h7 i2 hstf ⊢
          repeat (first | exact endA | refine wkP ?_ | refine opB (fun b => ?_) | refine opA (fun a' c' hc1 hc2 => ?_) | (apply GJ.and; exact rfl; intro hg) | (apply GJ.or; exact rfl; intro hg))
          refine Wk.id ⟨(gb, ks ++ [(kn : Int)], ls, s7, a3, a', c', wa, wc), ?_, ?_, Sub.auto, Sup.auto⟩
          all_goals try dsimp only
          · refine ⟨h7, ?_, ?_, ?_, hc1, hc2, i7, i8⟩
            · rw [← e1, show 70 - (ks.length + 1) = 69 - ks.length by omega]; exact i2
            · rw [← e1]
              exact .inr ⟨by omega, hstf hov⟩
            · have h7 := i4
              rw [← e1]; omega
          · rw [← e1]
            have : (if gb = true then 1 else 0) ≤ 1 := by split <;> omega
            simp only [↓reduceIte]
            omega
        · rw [show lastP (listE l) 11 s4 = kwP (listE l) [108, 97, 115, 116] s4 from rfl] at i2 hstf
          repeat (first | exact endA | refine wkG ?_ | refine opB (fun b => ?_) | refine opA (fun a' c' hc1 hc2 => ?_) | (show GJ _ _ _ _ _ _ _; first | (apply GJ.and; exact rfl; intro hg) | (apply GJ.or; exact rfl; intro hg) | refine GJ.t omAuto ?_ | refine GJ.f omAuto ?_ | refine GJ.ft omAuto ?_ | refine GJ.ff omAuto ?_))
          try refine SeqOk.pass ?_
          repeat (first | exact endA | refine wkG ?_ | refine opB (fun b => ?_) | refine opA (fun a' c' hc1 hc2 => ?_) | (show GJ _ _ _ _ _ _ _; first | (apply GJ.and; exact rfl; intro hg) | (apply GJ.or; exact rfl; intro hg) | refine GJ.t omAuto ?_ | refine GJ.f omAuto ?_ | refine GJ.ft omAuto ?_ | refine GJ.ff omAuto ?_))
          refine Bs.mk ⟨[.blk bN 56 [.int .i64 11, .int .i64 0, .bool false, .bool false, .bool false, .int .u64 ((0 : Nat) : Int), .int .u64 ((0 : Nat) : Int), str [], str [], .int .u64 ((0 : Nat) : Int), .int .u64 ((0 : Nat) : Int), .slice ka ks.length kc, .slice wa ls.length wc, .slice none 0 0, str [], .int .u64 ((0 : Nat) : Int), .slice none 0 0, .int .i64 0]], Sup.auto, ?_⟩
          repeat (first | exact endA | refine wkG ?_ | refine opB (fun b => ?_) | refine opA (fun a' c' hc1 hc2 => ?_) | (show GJ _ _ _ _ _ _ _; first | (apply GJ.and; exact rfl; intro hg) | (apply GJ.or; exact rfl; intro hg) | refine GJ.t omAuto ?_ | refine GJ.f omAuto ?_ | refine GJ.ft omAuto ?_ | refine GJ.ff omAuto ?_))
          refine word3 (t := [108, 97, 115, 116]) hT2 h4 Take.auto Take.auto Take.auto (fun h5 => ?_)
          generalize kwP (listE l) [108, 97, 115, 116] s4 = x at *
          obtain ⟨wb, s5⟩ := x
          dsimp only at h5 i2 hstf ⊢
          refine wkS ?_
          refine opB (fun b2 => ?_)
          refine wkS ?_
          repeat (first | exact endA | refine wkG ?_ | refine opB (fun b => ?_) | refine opA (fun a' c' hc1 hc2 => ?_) | (show GJ _ _ _ _ _ _ _; first | (apply GJ.and; exact rfl; intro hg) | (apply GJ.or; exact rfl; intro hg) | refine GJ.t omAuto ?_ | refine GJ.f omAuto ?_ | refine GJ.ft omAuto ?_ | refine GJ.ff omAuto ?_))
          have e3 : lastV ls ++ [Value.bool wb] = lastV (ls ++ [wb]) := by simp [lastV, flat, Value.cells]
          have e4 : ls.length + 1 = (ls ++ [wb]).length := by simp
          rw [e3]
          rw [e4] at hc1 ⊢
          have hd1 := hc1
          have hd2 := hc2
          have hd3 : (ls ++ [wb]).length ≤ ks.length + 1 := by rw [← e4]; omega
          obtain ⟨wa2, hwa2⟩ : ∃ z : Option Addr, z = a' := ⟨_, rfl⟩
          subst hwa2
          obtain ⟨wc2, hwc2⟩ : ∃ z : Nat, z = c' := ⟨_, rfl⟩
          subst hwc2
          repeat (first | exact endA | refine wkG ?_ | refine opB (fun b => ?_) | refine opA (fun a' c' hc1 hc2 => ?_) | (show GJ _ _ _ _ _ _ _; first | (apply GJ.and; exact rfl; intro hg) | (apply GJ.or; exact rfl; intro hg) | refine GJ.t omAuto ?_ | refine GJ.f omAuto ?_ | refine GJ.ft omAuto ?_ | refine GJ.ff omAuto ?_))
          refine Bs.mk ⟨[.blk bN 56 [.int .i64 11, .int .i64 0, .bool false, .bool false, .bool false, .int .u64 ((0 : Nat) : Int), .int .u64 ((0 : Nat) : Int), str [], str [], .int .u64 ((0 : Nat) : Int), .int .u64 ((0 : Nat) : Int), .slice ka ks.length kc, .slice wa2 ((ls ++ [wb])).length wc2, .slice none 0 0, str [], .int .u64 ((0 : Nat) : Int), .slice none 0 0, .int .i64 0]], Sup.auto, ?_⟩
          repeat (first | exact endA | refine wkG ?_ | refine opB (fun b => ?_) | refine opA (fun a' c' hc1 hc2 => ?_) | (show GJ _ _ _ _ _ _ _; first | (apply GJ.and; exact rfl; intro hg) | (apply GJ.or; exact rfl; intro hg) | refine GJ.t omAuto ?_ | refine GJ.f omAuto ?_ | refine GJ.ft omAuto ?_ | refine GJ.ff omAuto ?_))
          refine hF.run hM2 hT2 h5 Take.auto Take.auto Take.auto (fun ro3 a3 hl3 h6 => ?_)
          generalize F s5 = y at *
          obtain ⟨kn, s6⟩ := y
          dsimp only at h6 i2 hstf ⊢
          refine wkS ?_
          refine opB (fun b2 => ?_)
          refine wkS ?_
          repeat (first | exact endA | refine wkG ?_ | refine opB (fun b => ?_) | refine opA (fun a' c' hc1 hc2 => ?_) | (show GJ _ _ _ _ _ _ _; first | (apply GJ.and; exact rfl; intro hg) | (apply GJ.or; exact rfl; intro hg) | refine GJ.t omAuto ?_ | refine GJ.f omAuto ?_ | refine GJ.ft omAuto ?_ | refine GJ.ff omAuto ?_))
          have e2 : kidsV ks ++ [Value.int .i64 (kn : Int)] = kidsV (ks ++ [(kn : Int)]) := by simp [kidsV, flat, Value.cells]
          have e1 : ks.length + 1 = (ks ++ [(kn : Int)]).length := by simp
          rw [e2]
          rw [e1] at hc1 ⊢
          repeat (first | exact endA | refine wkP ?_ | refine opB (fun b => ?_) | refine opA (fun a' c' hc1 hc2 => ?_) | (apply GJ.and; exact rfl; intro hg) | (apply GJ.or; exact rfl; intro hg))
          refine sign3 (t := [124]) (hT2.up hl3) h6 Take.auto Take.auto Take.auto (fun h7 => ?_)
          generalize signP (listE l) [124] s6 = z at *
          obtain ⟨gb, s7⟩ := z
          dsimp only at h7 i2 hstf ⊢
          repeat (first | exact endA | refine wkP ?_ | refine opB (fun b => ?_) | refine opA (fun a' c' hc1 hc2 => ?_) | (apply GJ.and; exact rfl; intro hg) | (apply GJ.or; exact rfl; intro hg))
          refine Wk.id ⟨(gb, ks ++ [(kn : Int)], (ls ++ [wb]), s7, a3, a', c', wa2, wc2), ?_, ?_, Sub.auto, Sup.auto⟩
          all_goals try dsimp only
          · refine ⟨h7, ?_, ?_, ?_, hc1, hc2, hd1, hd2⟩
            · rw [← e1, show 70 - (ks.length + 1) = 69 - ks.length by omega]; exact i2
            · rw [← e1]
              exact .inr ⟨by omega, hstf hov⟩
            · have h7 := hd3
              rw [← e1]; omega
          · rw [← e1]
            have : (if gb = true then 1 else 0) ≤ 1 := by split <;> omega
            simp only [↓reduceIte]
            omega
      · rw [show overP ks.length s = s from if_neg h64] at i2
        have hle : ks.length ≤ 63 := by
          rcases i3 with h | ⟨h, hh⟩
          · omega
          · exact absurd hc hh
        repeat (first | exact endA | refine wkP ?_ | refine opB (fun b => ?_) | refine opA (fun a' c' hc1 hc2 => ?_) | (apply GJ.and; exact rfl; intro hg) | (apply GJ.or; exact rfl; intro hg))
        have hstf : (s).code ≠ 0 → (signP (listE l) [124] (F (lastP (listE l) kd s).2).2).2.code ≠ 0 := fun hh => by
          haveI := sticky_clo l
          exact (InP.sign (E := listE l) (I := fun s => s.code ≠ 0) ⟨hst _ (InP.last (E := listE l) (I := fun s => s.code ≠ 0) ⟨hh⟩ kd).get⟩ [124]).get
        rcases hkd with rfl | rfl
        · rw [show lastP (listE l) 10 s = (false, s) from rfl, show lastsP 10 ls false = ls from rfl] at i2
          rw [show lastP (listE l) 10 s = (false, s) from rfl] at hstf
          dsimp only at i2 hstf
          repeat (first | exact endA | refine wkG ?_ | refine opB (fun b => ?_) | refine opA (fun a' c' hc1 hc2 => ?_) | (show GJ _ _ _ _ _ _ _; first | (apply GJ.and; exact rfl; intro hg) | (apply GJ.or; exact rfl; intro hg) | refine GJ.t omAuto ?_ | refine GJ.f omAuto ?_ | refine GJ.ft omAuto ?_ | refine GJ.ff omAuto ?_))
          try refine SeqOk.pass ?_
          repeat (first | exact endA | refine wkG ?_ | refine opB (fun b => ?_) | refine opA (fun a' c' hc1 hc2 => ?_) | (show GJ _ _ _ _ _ _ _; first | (apply GJ.and; exact rfl; intro hg) | (apply GJ.or; exact rfl; intro hg) | refine GJ.t omAuto ?_ | refine GJ.f omAuto ?_ | refine GJ.ft omAuto ?_ | refine GJ.ff omAuto ?_))
          refine Bs.mk ⟨[.blk bN 56 [.int .i64 10, .int .i64 0, .bool false, .bool false, .bool false, .int .u64 ((0 : Nat) : Int), .int .u64 ((0 : Nat) : Int), str [], str [], .int .u64 ((0 : Nat) : Int), .int .u64 ((0 : Nat) : Int), .slice ka ks.length kc, .slice wa (ls).length wc, .slice none 0 0, str [], .int .u64 ((0 : Nat) : Int), .slice none 0 0, .int .i64 0]], Sup.auto, ?_⟩
          repeat (first | exact endA | refine wkG ?_ | refine opB (fun b => ?_) | refine opA (fun a' c' hc1 hc2 => ?_) | (show GJ _ _ _ _ _ _ _; first | (apply GJ.and; exact rfl; intro hg) | (apply GJ.or; exact rfl; intro hg) | refine GJ.t omAuto ?_ | refine GJ.f omAuto ?_ | refine GJ.ft omAuto ?_ | refine GJ.ff omAuto ?_))
          refine hF.run hM2 hT2 i1 Take.auto Take.auto Take.auto (fun ro3 a3 hl3 h6 => ?_)
          generalize F s = y at *
          obtain ⟨kn, s6⟩ := y
          dsimp only at h6 i2 hstf ⊢
          refine wkS ?_
          refine opB (fun b2 => ?_)
          refine wkS ?_
          repeat (first | exact endA | refine wkG ?_ | refine opB (fun b => ?_) | refine opA (fun a' c' hc1 hc2 => ?_) | (show GJ _ _ _ _ _ _ _; first | (apply GJ.and; exact rfl; intro hg) | (apply GJ.or; exact rfl; intro hg) | refine GJ.t omAuto ?_ | refine GJ.f omAuto ?_ | refine GJ.ft omAuto ?_ | refine GJ.ff omAuto ?_))
          have e2 : kidsV ks ++ [Value.int .i64 (kn : Int)] = kidsV (ks ++ [(kn : Int)]) := by simp [kidsV, flat, Value.cells]
          have e1 : ks.length + 1 = (ks ++ [(kn : Int)]).length := by simp
          rw [e2]
          rw [e1] at hc1 ⊢
          repeat (first | exact endA | refine wkP ?_ | refine opB (fun b => ?_) | refine opA (fun a' c' hc1 hc2 => ?_) | (apply GJ.and; exact rfl; intro hg) | (apply GJ.or; exact rfl; intro hg))
          refine sign3 (t := [124]) (hT2.up hl3) h6 Take.auto Take.auto Take.auto (fun h7 => ?_)
          generalize signP (listE l) [124] s6 = z at *
          obtain ⟨gb, s7⟩ := z
          dsimp only at h7 i2 hstf ⊢
          repeat (first | exact endA | refine wkP ?_ | refine opB (fun b => ?_) | refine opA (fun a' c' hc1 hc2 => ?_) | (apply GJ.and; exact rfl; intro hg) | (apply GJ.or; exact rfl; intro hg))
          refine Wk.id ⟨(gb, ks ++ [(kn : Int)], ls, s7, a3, a', c', wa, wc), ?_, ?_, Sub.auto, Sup.auto⟩
          all_goals try dsimp only
          · refine ⟨h7, ?_, ?_, ?_, hc1, hc2, i7, i8⟩
            · rw [← e1, show 70 - (ks.length + 1) = 69 - ks.length by omega]; exact i2
            · rw [← e1]
              exact .inl (by omega)
            · have h7 := i4
              rw [← e1]; omega
          · rw [← e1]
            have : (if gb = true then 1 else 0) ≤ 1 := by split <;> omega
            simp only [↓reduceIte]
            omega
        · rw [show lastP (listE l) 11 s = kwP (listE l) [108, 97, 115, 116] s from rfl] at i2 hstf
          repeat (first | exact endA | refine wkG ?_ | refine opB (fun b => ?_) | refine opA (fun a' c' hc1 hc2 => ?_) | (show GJ _ _ _ _ _ _ _; first | (apply GJ.and; exact rfl; intro hg) | (apply GJ.or; exact rfl; intro hg) | refine GJ.t omAuto ?_ | refine GJ.f omAuto ?_ | refine GJ.ft omAuto ?_ | refine GJ.ff omAuto ?_))
          try refine SeqOk.pass ?_
          repeat (first | exact endA | refine wkG ?_ | refine opB (fun b => ?_) | refine opA (fun a' c' hc1 hc2 => ?_) | (show GJ _ _ _ _ _ _ _; first | (apply GJ.and; exact rfl; intro hg) | (apply GJ.or; exact rfl; intro hg) | refine GJ.t omAuto ?_ | refine GJ.f omAuto ?_ | refine GJ.ft omAuto ?_ | refine GJ.ff omAuto ?_))
          refine Bs.mk ⟨[.blk bN 56 [.int .i64 11, .int .i64 0, .bool false, .bool false, .bool false, .int .u64 ((0 : Nat) : Int), .int .u64 ((0 : Nat) : Int), str [], str [], .int .u64 ((0 : Nat) : Int), .int .u64 ((0 : Nat) : Int), .slice ka ks.length kc, .slice wa ls.length wc, .slice none 0 0, str [], .int .u64 ((0 : Nat) : Int), .slice none 0 0, .int .i64 0]], Sup.auto, ?_⟩
          repeat (first | exact endA | refine wkG ?_ | refine opB (fun b => ?_) | refine opA (fun a' c' hc1 hc2 => ?_) | (show GJ _ _ _ _ _ _ _; first | (apply GJ.and; exact rfl; intro hg) | (apply GJ.or; exact rfl; intro hg) | refine GJ.t omAuto ?_ | refine GJ.f omAuto ?_ | refine GJ.ft omAuto ?_ | refine GJ.ff omAuto ?_))
          refine word3 (t := [108, 97, 115, 116]) hT2 i1 Take.auto Take.auto Take.auto (fun h5 => ?_)
          generalize kwP (listE l) [108, 97, 115, 116] s = x at *
          obtain ⟨wb, s5⟩ := x
          dsimp only at h5 i2 hstf ⊢
          refine wkS ?_
          refine opB (fun b2 => ?_)
          refine wkS ?_
          repeat (first | exact endA | refine wkG ?_ | refine opB (fun b => ?_) | refine opA (fun a' c' hc1 hc2 => ?_) | (show GJ _ _ _ _ _ _ _; first | (apply GJ.and; exact rfl; intro hg) | (apply GJ.or; exact rfl; intro hg) | refine GJ.t omAuto ?_ | refine GJ.f omAuto ?_ | refine GJ.ft omAuto ?_ | refine GJ.ff omAuto ?_))
          have e3 : lastV ls ++ [Value.bool wb] = lastV (ls ++ [wb]) := by simp [lastV, flat, Value.cells]
          have e4 : ls.length + 1 = (ls ++ [wb]).length := by simp
          rw [e3]
          rw [e4] at hc1 ⊢
          have hd1 := hc1
          have hd2 := hc2
          have hd3 : (ls ++ [wb]).length ≤ ks.length + 1 := by rw [← e4]; omega
          obtain ⟨wa2, hwa2⟩ : ∃ z : Option Addr, z = a' := ⟨_, rfl⟩
          subst hwa2
          obtain ⟨wc2, hwc2⟩ : ∃ z : Nat, z = c' := ⟨_, rfl⟩
          subst hwc2
          repeat (first | exact endA | refine wkG ?_ | refine opB (fun b => ?_) | refine opA (fun a' c' hc1 hc2 => ?_) | (show GJ _ _ _ _ _ _ _; first | (apply GJ.and; exact rfl; intro hg) | (apply GJ.or; exact rfl; intro hg) | refine GJ.t omAuto ?_ | refine GJ.f omAuto ?_ | refine GJ.ft omAuto ?_ | refine GJ.ff omAuto ?_))
          refine Bs.mk ⟨[.blk bN 56 [.int .i64 11, .int .i64 0, .bool false, .bool false, .bool false, .int .u64 ((0 : Nat) : Int), .int .u64 ((0 : Nat) : Int), str [], str [], .int .u64 ((0 : Nat) : Int), .int .u64 ((0 : Nat) : Int), .slice ka ks.length kc, .slice wa2 ((ls ++ [wb])).length wc2, .slice none 0 0, str [], .int .u64 ((0 : Nat) : Int), .slice none 0 0, .int .i64 0]], Sup.auto, ?_⟩
          repeat (first | exact endA | refine wkG ?_ | refine opB (fun b => ?_) | refine opA (fun a' c' hc1 hc2 => ?_) | (show GJ _ _ _ _ _ _ _; first | (apply GJ.and; exact rfl; intro hg) | (apply GJ.or; exact rfl; intro hg) | refine GJ.t omAuto ?_ | refine GJ.f omAuto ?_ | refine GJ.ft omAuto ?_ | refine GJ.ff omAuto ?_))
          refine hF.run hM2 hT2 h5 Take.auto Take.auto Take.auto (fun ro3 a3 hl3 h6 => ?_)
          generalize F s5 = y at *
          obtain ⟨kn, s6⟩ := y
          dsimp only at h6 i2 hstf ⊢
          refine wkS ?_
          refine opB (fun b2 => ?_)
          refine wkS ?_
          repeat (first | exact endA | refine wkG ?_ | refine opB (fun b => ?_) | refine opA (fun a' c' hc1 hc2 => ?_) | (show GJ _ _ _ _ _ _ _; first | (apply GJ.and; exact rfl; intro hg) | (apply GJ.or; exact rfl; intro hg) | refine GJ.t omAuto ?_ | refine GJ.f omAuto ?_ | refine GJ.ft omAuto ?_ | refine GJ.ff omAuto ?_))
          have e2 : kidsV ks ++ [Value.int .i64 (kn : Int)] = kidsV (ks ++ [(kn : Int)]) := by simp [kidsV, flat, Value.cells]
          have e1 : ks.length + 1 = (ks ++ [(kn : Int)]).length := by simp
          rw [e2]
          rw [e1] at hc1 ⊢
          repeat (first | exact endA | refine wkP ?_ | refine opB (fun b => ?_) | refine opA (fun a' c' hc1 hc2 => ?_) | (apply GJ.and; exact rfl; intro hg) | (apply GJ.or; exact rfl; intro hg))
          refine sign3 (t := [124]) (hT2.up hl3) h6 Take.auto Take.auto Take.auto (fun h7 => ?_)
          generalize signP (listE l) [124] s6 = z at *
          obtain ⟨gb, s7⟩ := z
          dsimp only at h7 i2 hstf ⊢
          repeat (first | exact endA | refine wkP ?_ | refine opB (fun b => ?_) | refine opA (fun a' c' hc1 hc2 => ?_) | (apply GJ.and; exact rfl; intro hg) | (apply GJ.or; exact rfl; intro hg))
          refine Wk.id ⟨(gb, ks ++ [(kn : Int)], (ls ++ [wb]), s7, a3, a', c', wa2, wc2), ?_, ?_, Sub.auto, Sup.auto⟩
          all_goals try dsimp only
          · refine ⟨h7, ?_, ?_, ?_, hc1, hc2, hd1, hd2⟩
            · rw [← e1, show 70 - (ks.length + 1) = 69 - ks.length by omega]; exact i2
            · rw [← e1]
              exact .inl (by omega)
            · have h7 := hd3
              rw [← e1]; omega
          · rw [← e1]
            have : (if gb = true then 1 else 0) ≤ 1 := by split <;> omega
            simp only [↓reduceIte]
            omega
    · rw [if_neg (fun h => hc h.2)] at i2
      subst i2
      dsimp only at hk
      repeat (first | exact endA | refine wkP ?_ | refine opB (fun b => ?_) | refine opA (fun a' c' hc1 hc2 => ?_) | (apply GJ.and; exact rfl; intro hg) | (apply GJ.or; exact rfl; intro hg))
      refine rok_ok i1 Take.auto ?_
      rw [decide_eq_false hc]
      repeat (first | exact endA | refine wkP ?_ | refine opB (fun b => ?_) | refine opA (fun a' c' hc1 hc2 => ?_) | (apply GJ.and; exact rfl; intro hg) | (apply GJ.or; exact rfl; intro hg))
      refine must3 (t := [125]) hT2 i1 Take.auto Take.auto Take.auto (fun g1 => ?_)
      generalize mustP (listE l) [125] s = z1 at *
      repeat (first | exact endA | refine wkP ?_ | refine opB (fun b => ?_) | refine opA (fun a' c' hc1 hc2 => ?_) | (apply GJ.and; exact rfl; intro hg) | (apply GJ.or; exact rfl; intro hg))
      refine CallOk.freeze (c := .sl ka _ _ 3 _ _) Take.auto (fun ro8 hl8 hc8 => ?_)
      refine CallOk.freeze (c := .sl wa _ _ 4 _ _) Take.auto (fun ro9 hl9 hc9 => ?_)
      refine radd_ok (d := { node0 with kind := kd, kids := ks, last := ls }) (x := { nodeZ with ka := ka, kc := kc, la := wa, lc := wc }) (hT2.up (hl8.trans hl9)) (g1.up (hl8.trans hl9)) ⟨rsUp hl9 (Rs.last hc8), Rs.last hc9, Rs.nil _ 5, Rs.nil _ 2⟩ ⟨by dsimp only; omega, by dsimp only; omega, by simp [node0], by simp [node0]⟩ Take.auto Take.auto Take.auto (fun ro4 a4 hl4 h4 => ?_)
      have hk2 := hk ro4 a4 (((hl2.trans hl8).trans hl9).trans hl4) h4
      repeat (first | exact endA | refine wkP ?_ | refine opB (fun b => ?_) | refine opA (fun a' c' hc1 hc2 => ?_) | (apply GJ.and; exact rfl; intro hg) | (apply GJ.or; exact rfl; intro hg))
      exact Wk.outS Sup.auto (.refl _) hk2
end
end Go.Proofs.YtepdapdekaiioaaGreatDoor
end
section
/- Contracts of the reader: types that begin with a word. -/
namespace Go.Proofs.YtepdapdekaiioaaGreatDoor
open Go Go.E
set_option linter.unusedVariables false
set_option linter.unusedSimpArgs false
set_option linter.unusedSectionVars false
set_option maxRecDepth 10000
section
variable {ro : Ro} {own q q1 q2 : Chs} {K : Value → Ro → Chs → Prop} {l : List TokD} {s : PS} {a : SpecA} {la : Option Addr} {lc r : Nat} {deep : Nat} {F : PS → Nat × PS}
set_option maxHeartbeats 8000000 in
theorem rnamed_ok (hF : KOk la lc r l ((deep : Int) + 1) F) (hst : ∀ s, s.code ≠ 0 → (F s).2.code ≠ 0) (hd : deep ≤ 100) (hM : MaxOk ro) (hT : ToksOk ro la lc l) (h : RdOk ro l s a) (t1 : Take own (rdC r la lc l s a) q1) (t2 : Take q1 (ndC s a) q2) (t3 : Take q2 (dfC s a) q)
    (hk : ∀ ro' a', Le ro ro' → RdOk ro' l (namedP numD (listE l) F s).2 a' → K (.int .i64 ((namedP numD (listE l) F s).1 : Int)) ro' (rdC r la lc l (namedP numD (listE l) F s).2 a' :: ndC (namedP numD (listE l) F s).2 a' :: dfC (namedP numD (listE l) F s).2 a' :: q)) :
    CallOk Tryz.prog 67 #[ptr' r, .int .i64 (deep : Int)] ro own K := by
  refine CallOk.perm (three t1 t2 t3) ?_
  unfold namedP at hk
  refine CallOk.intro (args := [_, _]) (rs := [_]) T_ok Tryz.func67 Tryz.call67 rfl rfl (by kernel_rfl) rfl rfl ?_
  repeat (first | exact endA | refine wkP ?_ | refine opB (fun b => ?_) | refine opA (fun a' c' hc1 hc2 => ?_) | (apply GJ.and; exact rfl; intro hg) | (apply GJ.or; exact rfl; intro hg))
  refine word3 (t := [118, 97, 114, 105, 110, 116]) hT h Take.auto Take.auto Take.auto (fun h5 => ?_)
  have hn1 := kw_no (E := listE l) (t := [118, 97, 114, 105, 110, 116]) (s := s)
  generalize kwP (listE l) [118, 97, 114, 105, 110, 116] s = w1 at *
  obtain ⟨b1, v1⟩ := w1
  dsimp only at h5 hn1 hk ⊢
  cases b1
  rotate_left
  · simp only [↓reduceIte] at hk
    unfold lenP at hk
    repeat (first | exact endA | refine wkP ?_ | refine opB (fun b => ?_) | refine opA (fun a' c' hc1 hc2 => ?_) | (apply GJ.and; exact rfl; intro hg) | (apply GJ.or; exact rfl; intro hg))
    refine word3 (t := [108, 101, 110, 105, 101, 110, 116]) hT h5 Take.auto Take.auto Take.auto (fun h6 => ?_)
    generalize kwP (listE l) [108, 101, 110, 105, 101, 110, 116] v1 = w2 at *
    obtain ⟨lb, v2⟩ := w2
    dsimp only at h6 hk ⊢
    repeat (first | exact endA | refine wkP ?_ | refine opB (fun b => ?_) | refine opA (fun a' c' hc1 hc2 => ?_) | (apply GJ.and; exact rfl; intro hg) | (apply GJ.or; exact rfl; intro hg))
    refine rranged_ok (d := { node0 with kind := 2, lenient := lb }) (x := nodeZ) hT h6 ⟨Rs.nil _ 1, Rs.nil _ 1, Rs.nil _ 5, Rs.nil _ 2⟩ ⟨by simp [node0], by simp [node0], by simp [node0], by simp [node0]⟩ Take.auto Take.auto Take.auto (fun ro4 a4 hl4 h4 => ?_)
    have hk2 := hk ro4 a4 hl4 h4
    repeat (first | exact endA | refine wkP ?_ | refine opB (fun b => ?_) | refine opA (fun a' c' hc1 hc2 => ?_) | (apply GJ.and; exact rfl; intro hg) | (apply GJ.or; exact rfl; intro hg))
    exact Wk.outS Sup.auto (.refl _) hk2
  obtain rfl := hn1 rfl
  clear h5
  simp only [Bool.false_eq_true, ↓reduceIte] at hk
  repeat (first | exact endA | refine wkP ?_ | refine opB (fun b => ?_) | refine opA (fun a' c' hc1 hc2 => ?_) | (apply GJ.and; exact rfl; intro hg) | (apply GJ.or; exact rfl; intro hg))
  refine word3 (t := [122, 105, 103, 122, 97, 103]) hT h Take.auto Take.auto Take.auto (fun h5 => ?_)
  have hn1 := kw_no (E := listE l) (t := [122, 105, 103, 122, 97, 103]) (s := s)
  generalize kwP (listE l) [122, 105, 103, 122, 97, 103] s = w1 at *
  obtain ⟨b1, v1⟩ := w1
  dsimp only at h5 hn1 hk ⊢
  cases b1
  rotate_left
  · simp only [↓reduceIte] at hk
    unfold lenP at hk
    repeat (first | exact endA | refine wkP ?_ | refine opB (fun b => ?_) | refine opA (fun a' c' hc1 hc2 => ?_) | (apply GJ.and; exact rfl; intro hg) | (apply GJ.or; exact rfl; intro hg))
    refine word3 (t := [108, 101, 110, 105, 101, 110, 116]) hT h5 Take.auto Take.auto Take.auto (fun h6 => ?_)
    generalize kwP (listE l) [108, 101, 110, 105, 101, 110, 116] v1 = w2 at *
    obtain ⟨lb, v2⟩ := w2
    dsimp only at h6 hk ⊢
    repeat (first | exact endA | refine wkP ?_ | refine opB (fun b => ?_) | refine opA (fun a' c' hc1 hc2 => ?_) | (apply GJ.and; exact rfl; intro hg) | (apply GJ.or; exact rfl; intro hg))
    refine rranged_ok (d := { node0 with kind := 2, zig := true, lenient := lb }) (x := nodeZ) hT h6 ⟨Rs.nil _ 1, Rs.nil _ 1, Rs.nil _ 5, Rs.nil _ 2⟩ ⟨by simp [node0], by simp [node0], by simp [node0], by simp [node0]⟩ Take.auto Take.auto Take.auto (fun ro4 a4 hl4 h4 => ?_)
    have hk2 := hk ro4 a4 hl4 h4
    repeat (first | exact endA | refine wkP ?_ | refine opB (fun b => ?_) | refine opA (fun a' c' hc1 hc2 => ?_) | (apply GJ.and; exact rfl; intro hg) | (apply GJ.or; exact rfl; intro hg))
    exact Wk.outS Sup.auto (.refl _) hk2
  obtain rfl := hn1 rfl
  clear h5
  simp only [Bool.false_eq_true, ↓reduceIte] at hk
  repeat (first | exact endA | refine wkP ?_ | refine opB (fun b => ?_) | refine opA (fun a' c' hc1 hc2 => ?_) | (apply GJ.and; exact rfl; intro hg) | (apply GJ.or; exact rfl; intro hg))
  refine word3 (t := [98, 121, 116, 101, 115]) hT h Take.auto Take.auto Take.auto (fun h5 => ?_)
  have hn1 := kw_no (E := listE l) (t := [98, 121, 116, 101, 115]) (s := s)
  generalize kwP (listE l) [98, 121, 116, 101, 115] s = w1 at *
  obtain ⟨b1, v1⟩ := w1
  dsimp only at h5 hn1 hk ⊢
  cases b1
  rotate_left
  · simp only [↓reduceIte] at hk
    unfold blobP at hk
    repeat (first | exact endA | refine wkP ?_ | refine opB (fun b => ?_) | refine opA (fun a' c' hc1 hc2 => ?_) | (apply GJ.and; exact rfl; intro hg) | (apply GJ.or; exact rfl; intro hg))
    refine rexpr_ok hM hT h5 Take.auto Take.auto Take.auto (fun h6 => ?_)
    generalize exprP numD (listE l) v1 = x at *
    obtain ⟨⟨xr, xm, xa⟩, v2⟩ := x
    dsimp only [exprV] at h6 hk ⊢
    repeat (first | exact endA | refine wkP ?_ | refine opB (fun b => ?_) | refine opA (fun a' c' hc1 hc2 => ?_) | (apply GJ.and; exact rfl; intro hg) | (apply GJ.or; exact rfl; intro hg))
    refine radd_ok (d := { node0 with kind := 4, ereg := xr, emul := xm, eadd := xa }) (x := nodeZ) hT h6 ⟨Rs.nil _ 1, Rs.nil _ 1, Rs.nil _ 5, Rs.nil _ 2⟩ ⟨by simp [node0], by simp [node0], by simp [node0], by simp [node0]⟩ Take.auto Take.auto Take.auto (fun ro4 a4 hl4 h4 => ?_)
    have hk2 := hk ro4 a4 hl4 h4
    repeat (first | exact endA | refine wkP ?_ | refine opB (fun b => ?_) | refine opA (fun a' c' hc1 hc2 => ?_) | (apply GJ.and; exact rfl; intro hg) | (apply GJ.or; exact rfl; intro hg))
    exact Wk.outS Sup.auto (.refl _) hk2
  obtain rfl := hn1 rfl
  clear h5
  simp only [Bool.false_eq_true, ↓reduceIte] at hk
  repeat (first | exact endA | refine wkP ?_ | refine opB (fun b => ?_) | refine opA (fun a' c' hc1 hc2 => ?_) | (apply GJ.and; exact rfl; intro hg) | (apply GJ.or; exact rfl; intro hg))
  refine word3 (t := [116, 105, 109, 101, 115]) hT h Take.auto Take.auto Take.auto (fun h5 => ?_)
  have hn1 := kw_no (E := listE l) (t := [116, 105, 109, 101, 115]) (s := s)
  generalize kwP (listE l) [116, 105, 109, 101, 115] s = w1 at *
  obtain ⟨b1, v1⟩ := w1
  dsimp only at h5 hn1 hk ⊢
  cases b1
  rotate_left
  · simp only [↓reduceIte] at hk
    repeat (first | exact endA | refine wkP ?_ | refine opB (fun b => ?_) | refine opA (fun a' c' hc1 hc2 => ?_) | (apply GJ.and; exact rfl; intro hg) | (apply GJ.or; exact rfl; intro hg))
    refine rcounted_ok (kd := 6) hF hd hM hT h5 Take.auto Take.auto Take.auto (fun ro4 a4 hl4 h4 => ?_)
    have hk2 := hk ro4 a4 hl4 h4
    repeat (first | exact endA | refine wkP ?_ | refine opB (fun b => ?_) | refine opA (fun a' c' hc1 hc2 => ?_) | (apply GJ.and; exact rfl; intro hg) | (apply GJ.or; exact rfl; intro hg))
    exact Wk.outS Sup.auto (.refl _) hk2
  obtain rfl := hn1 rfl
  clear h5
  simp only [Bool.false_eq_true, ↓reduceIte] at hk
  repeat (first | exact endA | refine wkP ?_ | refine opB (fun b => ?_) | refine opA (fun a' c' hc1 hc2 => ?_) | (apply GJ.and; exact rfl; intro hg) | (apply GJ.or; exact rfl; intro hg))
  refine word3 (t := [119, 105, 116, 104, 105, 110]) hT h Take.auto Take.auto Take.auto (fun h5 => ?_)
  have hn1 := kw_no (E := listE l) (t := [119, 105, 116, 104, 105, 110]) (s := s)
  generalize kwP (listE l) [119, 105, 116, 104, 105, 110] s = w1 at *
  obtain ⟨b1, v1⟩ := w1
  dsimp only at h5 hn1 hk ⊢
  cases b1
  rotate_left
  · simp only [↓reduceIte] at hk
    repeat (first | exact endA | refine wkP ?_ | refine opB (fun b => ?_) | refine opA (fun a' c' hc1 hc2 => ?_) | (apply GJ.and; exact rfl; intro hg) | (apply GJ.or; exact rfl; intro hg))
    refine rcounted_ok (kd := 8) hF hd hM hT h5 Take.auto Take.auto Take.auto (fun ro4 a4 hl4 h4 => ?_)
    have hk2 := hk ro4 a4 hl4 h4
    repeat (first | exact endA | refine wkP ?_ | refine opB (fun b => ?_) | refine opA (fun a' c' hc1 hc2 => ?_) | (apply GJ.and; exact rfl; intro hg) | (apply GJ.or; exact rfl; intro hg))
    exact Wk.outS Sup.auto (.refl _) hk2
  obtain rfl := hn1 rfl
  clear h5
  simp only [Bool.false_eq_true, ↓reduceIte] at hk
  repeat (first | exact endA | refine wkP ?_ | refine opB (fun b => ?_) | refine opA (fun a' c' hc1 hc2 => ?_) | (apply GJ.and; exact rfl; intro hg) | (apply GJ.or; exact rfl; intro hg))
  refine word3 (t := [109, 97, 110, 121]) hT h Take.auto Take.auto Take.auto (fun h5 => ?_)
  have hn1 := kw_no (E := listE l) (t := [109, 97, 110, 121]) (s := s)
  generalize kwP (listE l) [109, 97, 110, 121] s = w1 at *
  obtain ⟨b1, v1⟩ := w1
  dsimp only at h5 hn1 hk ⊢
  cases b1
  rotate_left
  · simp only [↓reduceIte] at hk
    unfold manyP at hk
    repeat (first | exact endA | refine wkP ?_ | refine opB (fun b => ?_) | refine opA (fun a' c' hc1 hc2 => ?_) | (apply GJ.and; exact rfl; intro hg) | (apply GJ.or; exact rfl; intro hg))
    refine hF.run hM hT h5 Take.auto Take.auto Take.auto (fun ro2 a2 hl2 h6 => ?_)
    generalize F v1 = k at *
    obtain ⟨kn, s2⟩ := k
    dsimp only at h6 hk ⊢
    repeat (first | exact endA | refine wkP ?_)
    refine OpOk.buildSliceF rfAuto rfAuto rfAuto rfAuto rfAuto (fun ro3 b3 hl3 hb3 => ?_)
    repeat (first | exact endA | refine wkP ?_)
    have h3 := h6.up hl3
    refine radd_ok (d := { node0 with kind := 7, kids := [(kn : Int)] }) (x := { nodeZ with ka := some ⟨b3, 0, none⟩, kc := 1 }) ((hT.up hl2).up hl3) h3 ⟨hb3, Rs.nil _ 1, Rs.nil _ 5, Rs.nil _ 2⟩ ⟨by simp, by simp [node0], by simp [node0], by simp [node0]⟩ Take.auto Take.auto Take.auto (fun ro4 a4 hl4 h4 => ?_)
    have hl4 := (hl2.trans hl3).trans hl4
    have hk2 := hk ro4 a4 hl4 h4
    repeat (first | exact endA | refine wkP ?_ | refine opB (fun b => ?_) | refine opA (fun a' c' hc1 hc2 => ?_) | (apply GJ.and; exact rfl; intro hg) | (apply GJ.or; exact rfl; intro hg))
    exact Wk.outS Sup.auto (.refl _) hk2
  obtain rfl := hn1 rfl
  clear h5
  simp only [Bool.false_eq_true, ↓reduceIte] at hk
  repeat (first | exact endA | refine wkP ?_ | refine opB (fun b => ?_) | refine opA (fun a' c' hc1 hc2 => ?_) | (apply GJ.and; exact rfl; intro hg) | (apply GJ.or; exact rfl; intro hg))
  refine word3 (t := [115, 119, 105, 116, 99, 104]) hT h Take.auto Take.auto Take.auto (fun h5 => ?_)
  have hn1 := kw_no (E := listE l) (t := [115, 119, 105, 116, 99, 104]) (s := s)
  generalize kwP (listE l) [115, 119, 105, 116, 99, 104] s = w1 at *
  obtain ⟨b1, v1⟩ := w1
  dsimp only at h5 hn1 hk ⊢
  cases b1
  rotate_left
  · simp only [↓reduceIte] at hk
    repeat (first | exact endA | refine wkP ?_ | refine opB (fun b => ?_) | refine opA (fun a' c' hc1 hc2 => ?_) | (apply GJ.and; exact rfl; intro hg) | (apply GJ.or; exact rfl; intro hg))
    refine rcases_ok hF hst hd hM hT h5 Take.auto Take.auto Take.auto (fun ro4 a4 hl4 h4 => ?_)
    have hk2 := hk ro4 a4 hl4 h4
    repeat (first | exact endA | refine wkP ?_ | refine opB (fun b => ?_) | refine opA (fun a' c' hc1 hc2 => ?_) | (apply GJ.and; exact rfl; intro hg) | (apply GJ.or; exact rfl; intro hg))
    exact Wk.outS Sup.auto (.refl _) hk2
  obtain rfl := hn1 rfl
  clear h5
  simp only [Bool.false_eq_true, ↓reduceIte] at hk
  repeat (first | exact endA | refine wkP ?_ | refine opB (fun b => ?_) | refine opA (fun a' c' hc1 hc2 => ?_) | (apply GJ.and; exact rfl; intro hg) | (apply GJ.or; exact rfl; intro hg))
  refine word3 (t := [111, 110, 101, 111, 102]) hT h Take.auto Take.auto Take.auto (fun h5 => ?_)
  have hn1 := kw_no (E := listE l) (t := [111, 110, 101, 111, 102]) (s := s)
  generalize kwP (listE l) [111, 110, 101, 111, 102] s = w1 at *
  obtain ⟨b1, v1⟩ := w1
  dsimp only at h5 hn1 hk ⊢
  cases b1
  rotate_left
  · simp only [↓reduceIte] at hk
    repeat (first | exact endA | refine wkP ?_ | refine opB (fun b => ?_) | refine opA (fun a' c' hc1 hc2 => ?_) | (apply GJ.and; exact rfl; intro hg) | (apply GJ.or; exact rfl; intro hg))
    refine rchoice_ok (.inl rfl) hF hst hd hM hT h5 Take.auto Take.auto Take.auto (fun ro4 a4 hl4 h4 => ?_)
    have hk2 := hk ro4 a4 hl4 h4
    repeat (first | exact endA | refine wkP ?_ | refine opB (fun b => ?_) | refine opA (fun a' c' hc1 hc2 => ?_) | (apply GJ.and; exact rfl; intro hg) | (apply GJ.or; exact rfl; intro hg))
    exact Wk.outS Sup.auto (.refl _) hk2
  obtain rfl := hn1 rfl
  clear h5
  simp only [Bool.false_eq_true, ↓reduceIte] at hk
  repeat (first | exact endA | refine wkP ?_ | refine opB (fun b => ?_) | refine opA (fun a' c' hc1 hc2 => ?_) | (apply GJ.and; exact rfl; intro hg) | (apply GJ.or; exact rfl; intro hg))
  refine word3 (t := [99, 104, 97, 105, 110]) hT h Take.auto Take.auto Take.auto (fun h5 => ?_)
  have hn1 := kw_no (E := listE l) (t := [99, 104, 97, 105, 110]) (s := s)
  generalize kwP (listE l) [99, 104, 97, 105, 110] s = w1 at *
  obtain ⟨b1, v1⟩ := w1
  dsimp only at h5 hn1 hk ⊢
  cases b1
  rotate_left
  · simp only [↓reduceIte] at hk
    repeat (first | exact endA | refine wkP ?_ | refine opB (fun b => ?_) | refine opA (fun a' c' hc1 hc2 => ?_) | (apply GJ.and; exact rfl; intro hg) | (apply GJ.or; exact rfl; intro hg))
    refine rchoice_ok (.inr rfl) hF hst hd hM hT h5 Take.auto Take.auto Take.auto (fun ro4 a4 hl4 h4 => ?_)
    have hk2 := hk ro4 a4 hl4 h4
    repeat (first | exact endA | refine wkP ?_ | refine opB (fun b => ?_) | refine opA (fun a' c' hc1 hc2 => ?_) | (apply GJ.and; exact rfl; intro hg) | (apply GJ.or; exact rfl; intro hg))
    exact Wk.outS Sup.auto (.refl _) hk2
  obtain rfl := hn1 rfl
  clear h5
  simp only [Bool.false_eq_true, ↓reduceIte] at hk
  repeat (first | exact endA | refine wkP ?_ | refine opB (fun b => ?_) | refine opA (fun a' c' hc1 hc2 => ?_) | (apply GJ.and; exact rfl; intro hg) | (apply GJ.or; exact rfl; intro hg))
  refine word3 (t := [101, 109, 112, 116, 121]) hT h Take.auto Take.auto Take.auto (fun h5 => ?_)
  have hn1 := kw_no (E := listE l) (t := [101, 109, 112, 116, 121]) (s := s)
  generalize kwP (listE l) [101, 109, 112, 116, 121] s = w1 at *
  obtain ⟨b1, v1⟩ := w1
  dsimp only at h5 hn1 hk ⊢
  cases b1
  rotate_left
  · simp only [↓reduceIte] at hk
    repeat (first | exact endA | refine wkP ?_ | refine opB (fun b => ?_) | refine opA (fun a' c' hc1 hc2 => ?_) | (apply GJ.and; exact rfl; intro hg) | (apply GJ.or; exact rfl; intro hg))
    refine radd_ok (d := { node0 with kind := 12 }) (x := nodeZ) hT h5 ⟨Rs.nil _ 1, Rs.nil _ 1, Rs.nil _ 5, Rs.nil _ 2⟩ ⟨by simp [node0], by simp [node0], by simp [node0], by simp [node0]⟩ Take.auto Take.auto Take.auto (fun ro4 a4 hl4 h4 => ?_)
    have hk2 := hk ro4 a4 hl4 h4
    repeat (first | exact endA | refine wkP ?_ | refine opB (fun b => ?_) | refine opA (fun a' c' hc1 hc2 => ?_) | (apply GJ.and; exact rfl; intro hg) | (apply GJ.or; exact rfl; intro hg))
    exact Wk.outS Sup.auto (.refl _) hk2
  obtain rfl := hn1 rfl
  clear h5
  simp only [Bool.false_eq_true, ↓reduceIte] at hk
  unfold useP at hk
  repeat (first | exact endA | refine wkP ?_ | refine opB (fun b => ?_) | refine opA (fun a' c' hc1 hc2 => ?_) | (apply GJ.and; exact rfl; intro hg) | (apply GJ.or; exact rfl; intro hg))
  refine name3 hM hT h Take.auto Take.auto Take.auto (fun h1 => ?_)
  generalize nameP (listE l) s = x at *
  obtain ⟨xn, s1⟩ := x
  dsimp only at h1 hk ⊢
  repeat (first | exact endA | refine wkP ?_ | refine opB (fun b => ?_) | refine opA (fun a' c' hc1 hc2 => ?_) | (apply GJ.and; exact rfl; intro hg) | (apply GJ.or; exact rfl; intro hg))
  refine radd_ok (d := { node0 with kind := 13, text := xn }) (x := nodeZ) hT h1 ⟨Rs.nil _ 1, Rs.nil _ 1, Rs.nil _ 5, Rs.nil _ 2⟩ ⟨by simp [node0], by simp [node0], by simp [node0], by simp [node0]⟩ Take.auto Take.auto Take.auto (fun ro4 a4 hl4 h4 => ?_)
  have hk2 := hk ro4 a4 hl4 h4
  repeat (first | exact endA | refine wkP ?_ | refine opB (fun b => ?_) | refine opA (fun a' c' hc1 hc2 => ?_) | (apply GJ.and; exact rfl; intro hg) | (apply GJ.or; exact rfl; intro hg))
  exact Wk.outS Sup.auto (.refl _) hk2
end
end Go.Proofs.YtepdapdekaiioaaGreatDoor
end
section
/- Contracts of the reader: a type. -/
namespace Go.Proofs.YtepdapdekaiioaaGreatDoor
open Go Go.E
set_option linter.unusedVariables false
set_option linter.unusedSimpArgs false
set_option linter.unusedSectionVars false
set_option maxRecDepth 10000
section
variable {ro : Ro} {own q q1 q2 : Chs} {K : Value → Ro → Chs → Prop} {l : List TokD} {s : PS} {a : SpecA} {la : Option Addr} {lc r : Nat} {deep : Nat} {F : PS → Nat × PS}
theorem RdOk.stepW (hT : ToksOk ro la lc l) (h : RdOk ro l s a) (hk : (peekP (listE l) s).kind ≠ 5) : RdOk ro l (stepP (wrongP 5 s)) a := by
  have h2 := h.step hT hk
  unfold wrongP
  split
  · exact ⟨h2.at', h.at', (by decide : 5 ≤ 1000), h.build, h.sm, h.nn, h.nd⟩
  · exact h2
theorem sticky_kindD (d : Nat) (s : PS) (h : s.code ≠ 0) : (kindP numD (listE l) d s).2.code ≠ 0 :=
  (InP.kind (wideP := numD) (C := sticky_clo l) d s ⟨h⟩).get
set_option maxHeartbeats 8000000 in
theorem rkind0_ok : KOk la lc r l 25 (kindP numD (listE l) 0) := by
  refine ⟨fun {ro own q q1 q2 K s a} hM hT h t1 t2 t3 hk => ?_⟩
  refine CallOk.perm (three t1 t2 t3) ?_
  unfold kindP at hk
  dsimp only at hk
  refine CallOk.intro (args := [_, _]) (rs := [_]) T_ok Tryz.func38 Tryz.call38 rfl rfl (by kernel_rfl) rfl rfl ?_
  repeat (first | exact endA | refine wkP ?_ | refine opB (fun b => ?_) | refine opA (fun a' c' hc1 hc2 => ?_) | (apply GJ.and; exact rfl; intro hg) | (apply GJ.or; exact rfl; intro hg))
  refine wrong3 (e := 6) (by decide) (by decide) hT h Take.auto Take.auto Take.auto (fun h1 => ?_)
  have hc : (wrongP 6 s).code ≠ 0 := by
    unfold wrongP
    split
    · exact (by decide : (6 : Nat) ≠ 0)
    · assumption
  generalize wrongP 6 s = s1 at *
  repeat (first | exact endA | refine wkP ?_ | refine opB (fun b => ?_) | refine opA (fun a' c' hc1 hc2 => ?_) | (apply GJ.and; exact rfl; intro hg) | (apply GJ.or; exact rfl; intro hg))
  refine rok_ok h1 Take.auto ?_
  rw [decide_eq_false hc]
  have hk2 := hk ro a (Le.refl _) h1
  repeat (first | exact endA | refine wkP ?_ | refine opB (fun b => ?_) | refine opA (fun a' c' hc1 hc2 => ?_) | (apply GJ.and; exact rfl; intro hg) | (apply GJ.or; exact rfl; intro hg))
  exact Wk.outS Sup.auto (.refl _) hk2
set_option maxHeartbeats 8000000 in
theorem rkind1_ok {d : Nat} (hd : d ≤ 24) (hF : KOk la lc r l (((24 - d : Nat) : Int) + 1) (kindP numD (listE l) d)) : KOk la lc r l ((24 - d : Nat) : Int) (kindP numD (listE l) (d + 1)) := by
  refine ⟨fun {ro own q q1 q2 K s a} hM hT h t1 t2 t3 hk => ?_⟩
  refine CallOk.perm (three t1 t2 t3) ?_
  have hst := sticky_kindD (l := l) d
  unfold kindP at hk
  generalize kindP numD (listE l) d = F at *
  obtain ⟨deep, hdeep⟩ : ∃ k, k = 24 - d := ⟨_, rfl⟩
  rw [← hdeep] at hF ⊢
  have hd24 : deep ≤ 24 := by omega
  clear hdeep
  refine CallOk.intro (args := [_, _]) (rs := [_]) T_ok Tryz.func38 Tryz.call38 rfl rfl (by kernel_rfl) rfl rfl ?_
  repeat (first | exact endA | refine wkP ?_ | refine opB (fun b => ?_) | refine opA (fun a' c' hc1 hc2 => ?_) | (apply GJ.and; exact rfl; intro hg) | (apply GJ.or; exact rfl; intro hg))
  rw [decide_eq_false (by omega : ¬ (deep : Int) > 24)]
  repeat (first | exact endA | refine wkP ?_ | refine opB (fun b => ?_) | refine opA (fun a' c' hc1 hc2 => ?_) | (apply GJ.and; exact rfl; intro hg) | (apply GJ.or; exact rfl; intro hg))
  refine rok_ok h Take.auto ?_
  by_cases hc : s.code = 0
  · rw [if_neg (fun h => h hc)] at hk
    rw [decide_eq_true hc]
    repeat (first | exact endA | refine wkP ?_ | refine opB (fun b => ?_) | refine opA (fun a' c' hc1 hc2 => ?_) | (apply GJ.and; exact rfl; intro hg) | (apply GJ.or; exact rfl; intro hg))
    refine rpeek_ok hT h Take.auto ?_
    have htx := hT.text _ (peekT_mem hT h)
    repeat (first | exact endA | refine wkP ?_ | refine opB (fun b => ?_) | refine opA (fun a' c' hc1 hc2 => ?_) | (apply GJ.and; exact rfl; intro hg) | (apply GJ.or; exact rfl; intro hg))
    by_cases h3 : (peekP (listE l) s).kind = 3
    · rw [if_pos h3] at hk
      have hl2' := hT.le
      by_cases ht : (peekP (listE l) s).text = []
      · rw [if_pos ht] at hk
        repeat (first | exact endA | refine wkP ?_ | refine opB (fun b => ?_) | refine opA (fun a' c' hc1 hc2 => ?_) | (apply GJ.and; exact rfl; intro hg) | (apply GJ.or; exact rfl; intro hg))
        refine wrong3 (e := 5) (by decide) (by decide) hT h Take.auto Take.auto Take.auto (fun h1 => ?_)
        have h2 := h.stepW hT (by omega)
        generalize wrongP 5 s = s1 at *
        have hat : s1.at' + 1 < l.length := h2.at'
        unfold rdC readV
        repeat (first | exact endA | refine wkP ?_ | refine opB (fun b => ?_) | refine opA (fun a' c' hc1 hc2 => ?_) | (apply GJ.and; exact rfl; intro hg) | (apply GJ.or; exact rfl; intro hg))
        rw [← stepC]
        repeat (first | exact endA | refine wkP ?_ | refine opB (fun b => ?_) | refine opA (fun a' c' hc1 hc2 => ?_) | (apply GJ.and; exact rfl; intro hg) | (apply GJ.or; exact rfl; intro hg))
        refine radd_ok (d := { node0 with kind := 3, text := _ }) (x := nodeZ) (s := stepP s1) hT h2 ⟨Rs.nil _ 1, Rs.nil _ 1, Rs.nil _ 5, Rs.nil _ 2⟩ ⟨by simp [node0], by simp [node0], by simp [node0], by simp [node0]⟩ Take.auto Take.auto Take.auto (fun ro4 a4 hl4 h4 => ?_)
        have hk2 := hk ro4 a4 hl4 h4
        repeat (first | exact endA | refine wkP ?_ | refine opB (fun b => ?_) | refine opA (fun a' c' hc1 hc2 => ?_) | (apply GJ.and; exact rfl; intro hg) | (apply GJ.or; exact rfl; intro hg))
        exact Wk.outS Sup.auto (.refl _) hk2
      · rw [if_neg ht] at hk
        have h2 := h.step hT (by omega)
        have hat : s.at' + 1 < l.length := h2.at'
        unfold rdC readV
        repeat (first | exact endA | refine wkP ?_ | refine opB (fun b => ?_) | refine opA (fun a' c' hc1 hc2 => ?_) | (apply GJ.and; exact rfl; intro hg) | (apply GJ.or; exact rfl; intro hg))
        rw [← stepC]
        repeat (first | exact endA | refine wkP ?_ | refine opB (fun b => ?_) | refine opA (fun a' c' hc1 hc2 => ?_) | (apply GJ.and; exact rfl; intro hg) | (apply GJ.or; exact rfl; intro hg))
        refine radd_ok (d := { node0 with kind := 3, text := _ }) (x := nodeZ) (s := stepP s) hT h2 ⟨Rs.nil _ 1, Rs.nil _ 1, Rs.nil _ 5, Rs.nil _ 2⟩ ⟨by simp [node0], by simp [node0], by simp [node0], by simp [node0]⟩ Take.auto Take.auto Take.auto (fun ro4 a4 hl4 h4 => ?_)
        have hk2 := hk ro4 a4 hl4 h4
        repeat (first | exact endA | refine wkP ?_ | refine opB (fun b => ?_) | refine opA (fun a' c' hc1 hc2 => ?_) | (apply GJ.and; exact rfl; intro hg) | (apply GJ.or; exact rfl; intro hg))
        exact Wk.outS Sup.auto (.refl _) hk2
    · rw [if_neg h3] at hk
      repeat (first | exact endA | refine wkP ?_ | refine opB (fun b => ?_) | refine opA (fun a' c' hc1 hc2 => ?_) | (apply GJ.and; exact rfl; intro hg) | (apply GJ.or; exact rfl; intro hg))
      refine ris_ok (k := 4) (t := [123]) hT h Take.auto ?_
      by_cases hi : isP (listE l) 4 [123] s = true
      · rw [if_pos hi] at hk
        rw [hi]
        repeat (first | exact endA | refine wkP ?_ | refine opB (fun b => ?_) | refine opA (fun a' c' hc1 hc2 => ?_) | (apply GJ.and; exact rfl; intro hg) | (apply GJ.or; exact rfl; intro hg))
        refine rrecord_ok hF hst (by omega) hM hT h Take.auto Take.auto Take.auto (fun ro4 a4 hl4 h4 => ?_)
        have hk2 := hk ro4 a4 hl4 h4
        repeat (first | exact endA | refine wkP ?_ | refine opB (fun b => ?_) | refine opA (fun a' c' hc1 hc2 => ?_) | (apply GJ.and; exact rfl; intro hg) | (apply GJ.or; exact rfl; intro hg))
        exact Wk.outS Sup.auto (.refl _) hk2
      · rw [if_neg hi] at hk
        rw [Bool.eq_false_iff.2 hi]
        repeat (first | exact endA | refine wkP ?_ | refine opB (fun b => ?_) | refine opA (fun a' c' hc1 hc2 => ?_) | (apply GJ.and; exact rfl; intro hg) | (apply GJ.or; exact rfl; intro hg))
        by_cases h1 : (peekP (listE l) s).kind = 1
        · rw [if_neg (fun h => h h1)] at hk
          repeat (first | exact endA | refine wkP ?_ | refine opB (fun b => ?_) | refine opA (fun a' c' hc1 hc2 => ?_) | (apply GJ.and; exact rfl; intro hg) | (apply GJ.or; exact rfl; intro hg))
          refine rfixed_ok htx ?_
          generalize hfx : fixedD (peekP (listE l) s).text = fx at *
          cases fx with
          | none =>
            dsimp only at hk
            dsimp only [fixV]
            repeat (first | exact endA | refine wkP ?_ | refine opB (fun b => ?_) | refine opA (fun a' c' hc1 hc2 => ?_) | (apply GJ.and; exact rfl; intro hg) | (apply GJ.or; exact rfl; intro hg))
            refine rnamed_ok hF hst (by omega) hM hT h Take.auto Take.auto Take.auto (fun ro4 a4 hl4 h4 => ?_)
            have hk2 := hk ro4 a4 hl4 h4
            repeat (first | exact endA | refine wkP ?_ | refine opB (fun b => ?_) | refine opA (fun a' c' hc1 hc2 => ?_) | (apply GJ.and; exact rfl; intro hg) | (apply GJ.or; exact rfl; intro hg))
            exact Wk.outS Sup.auto (.refl _) hk2
          | some x =>
            obtain ⟨fw, fb⟩ := x
            dsimp only at hk
            dsimp only [fixV]
            have hl2' := hT.le
            have h2 := h.step hT (by omega)
            have hat : s.at' + 1 < l.length := h2.at'
            unfold rdC readV
            repeat (first | exact endA | refine wkP ?_ | refine opB (fun b => ?_) | refine opA (fun a' c' hc1 hc2 => ?_) | (apply GJ.and; exact rfl; intro hg) | (apply GJ.or; exact rfl; intro hg))
            rw [← stepC]
            refine rranged_ok (d := { node0 with kind := 1, width := (fw : Int), little := fb }) (x := nodeZ) (s := stepP s) hT h2 ⟨Rs.nil _ 1, Rs.nil _ 1, Rs.nil _ 5, Rs.nil _ 2⟩ ⟨by simp [node0], by simp [node0], by simp [node0], by simp [node0]⟩ Take.auto Take.auto Take.auto (fun ro4 a4 hl4 h4 => ?_)
            have hk2 := hk ro4 a4 hl4 h4
            repeat (first | exact endA | refine wkP ?_ | refine opB (fun b => ?_) | refine opA (fun a' c' hc1 hc2 => ?_) | (apply GJ.and; exact rfl; intro hg) | (apply GJ.or; exact rfl; intro hg))
            exact Wk.outS Sup.auto (.refl _) hk2
        · rw [if_pos h1] at hk
          repeat (first | exact endA | refine wkP ?_ | refine opB (fun b => ?_) | refine opA (fun a' c' hc1 hc2 => ?_) | (apply GJ.and; exact rfl; intro hg) | (apply GJ.or; exact rfl; intro hg))
          refine wrong3 (e := 5) (by decide) (by decide) hT h Take.auto Take.auto Take.auto (fun h5 => ?_)
          have hk2 := hk ro a (Le.refl _) h5
          repeat (first | exact endA | refine wkP ?_ | refine opB (fun b => ?_) | refine opA (fun a' c' hc1 hc2 => ?_) | (apply GJ.and; exact rfl; intro hg) | (apply GJ.or; exact rfl; intro hg))
          exact Wk.outS Sup.auto (.refl _) hk2
  · rw [if_pos hc] at hk
    rw [decide_eq_false hc]
    have hk2 := hk ro a (Le.refl _) h
    repeat (first | exact endA | refine wkP ?_ | refine opB (fun b => ?_) | refine opA (fun a' c' hc1 hc2 => ?_) | (apply GJ.and; exact rfl; intro hg) | (apply GJ.or; exact rfl; intro hg))
    exact Wk.outS Sup.auto (.refl _) hk2
end
end Go.Proofs.YtepdapdekaiioaaGreatDoor
end
section
/- Contracts of parse: a type with a name. -/
namespace Go.Proofs.YtepdapdekaiioaaGreatDoor
open Go Go.E
set_option linter.unusedVariables false
set_option linter.unusedSimpArgs false
set_option linter.unusedSectionVars false
set_option maxRecDepth 10000
theorem rkind_ok {la : Option Addr} {lc r : Nat} {l : List TokD} : ∀ d : Nat, d ≤ 25 → KOk la lc r l ((25 : Int) - (d : Int)) (kindP numD (listE l) d)
  | 0, _ => rkind0_ok
  | d + 1, h => by
    have h2 := rkind_ok (la := la) (lc := lc) (r := r) (l := l) d (by omega)
    have h3 := rkind1_ok (la := la) (lc := lc) (r := r) (l := l) (d := d) (by omega) (by
      rw [show ((24 - d : Nat) : Int) + 1 = (25 : Int) - (d : Int) by omega]; exact h2)
    rw [show (25 : Int) - ((d + 1 : Nat) : Int) = ((24 - d : Nat) : Int) by omega]
    exact h3
theorem rkind25_ok {la : Option Addr} {lc r : Nat} {l : List TokD} : KOk la lc r l 0 (kindP numD (listE l) 25) := rkind_ok 25 (Nat.le_refl _)
section
variable {ro : Ro} {own q q1 q2 : Chs} {K : Value → Ro → Chs → Prop} {l : List TokD} {s : PS} {a : SpecA} {la : Option Addr} {lc r : Nat}
set_option maxHeartbeats 4000000 in
theorem bnameFull_ok {nm : List UInt8} {t : Int} (hn : s.defs.length = 64) (hk : K (.int .i64 2) ro (rdC r la lc l s a :: q)) :
    CallOk Tryz.prog 17 #[.pointer (some ⟨r, 0 + 2, none⟩), str nm, .int .i64 t] ro (rdC r la lc l s a :: q) K := by
  unfold rdC readV at hk ⊢
  refine CallOk.intro (args := [_, _, _]) (rs := [_]) T_ok Tryz.func17 Tryz.call17 rfl rfl (by kernel_rfl) rfl rfl ?_
  repeat (first | exact endA | refine wkP ?_ | refine opB (fun b => ?_) | refine opA (fun a' c' hc1 hc2 => ?_) | (apply GJ.and; exact rfl; intro hg) | (apply GJ.or; exact rfl; intro hg))
  exact Wk.outS Sup.auto (.refl _) hk
set_option maxHeartbeats 4000000 in
theorem bnameAt_ok {d : DefD} (h : RdOk ro l s a) (hn : s.defs.length < 64)
    (hk : ∀ a', RdOk ro l { s with defs := s.defs ++ [d] } a' → K (.int .i64 0) ro (rdC r la lc l { s with defs := s.defs ++ [d] } a' :: ndC { s with defs := s.defs ++ [d] } a' :: dfC { s with defs := s.defs ++ [d] } a' :: q)) :
    CallOk Tryz.prog 17 #[.pointer (some ⟨r, 0 + 2, none⟩), str d.name, .int .i64 d.type] ro (rdC r la lc l s a :: ndC s a :: dfC s a :: q) K := by
  have hb := h.build
  have hdc := hb.dc
  unfold rdC readV
  refine CallOk.intro (args := [_, _, _]) (rs := [_]) T_ok Tryz.func17 Tryz.call17 rfl rfl (by kernel_rfl) rfl rfl ?_
  repeat (first | exact endA | refine wkG ?_ | refine opB (fun b => ?_) | refine opA (fun a' c' hc1 hc2 => ?_) | (show GJ _ _ _ _ _ _ _; first | (apply GJ.and; exact rfl; intro hg) | (apply GJ.or; exact rfl; intro hg) | refine GJ.t omAuto ?_ | refine GJ.f omAuto ?_ | refine GJ.ft omAuto ?_ | refine GJ.ff omAuto ?_))
  have e1 : (s.defs ++ [d]).length = s.defs.length + 1 := by simp
  have e2 : defsV s.defs ++ flat [.agg #[str d.name, .int .i64 d.type]] = defsV (s.defs ++ [d]) := by simp [defsV, defV, flat, Value.cells]
  have hk2 := hk ⟨a.na, a.nc, a', c', a.xs⟩ ⟨h.at', h.fat, h.code, ⟨hb.len, hb.each, hb.nc, ⟨by dsimp only; rw [e1]; exact hc1, hc2⟩⟩, h.sm, h.nn, by dsimp only; rw [e1]; omega⟩
  unfold rdC readV ndC dfC at hk2
  dsimp only at hk2
  rw [e1] at hk2
  rw [e2]
  exact Wk.outS Sup.auto (.refl _) hk2
set_option maxHeartbeats 4000000 in
theorem rdef_ok (hM : MaxOk ro) (hT : ToksOk ro la lc l) (h : RdOk ro l s a) (t1 : Take own (rdC r la lc l s a) q1) (t2 : Take q1 (ndC s a) q2) (t3 : Take q2 (dfC s a) q)
    (hk : ∀ ro' a', Le ro ro' → RdOk ro' l (defP numD (listE l) s) a' → K (.tuple #[]) ro' (rdC r la lc l (defP numD (listE l) s) a' :: ndC (defP numD (listE l) s) a' :: dfC (defP numD (listE l) s) a' :: q)) :
    CallOk Tryz.prog 23 #[ptr' r] ro own K := by
  refine CallOk.perm (three t1 t2 t3) ?_
  have hlim : (listE l).limD = 64 := rfl
  unfold defP at hk
  dsimp only at hk
  rw [hlim] at hk
  refine CallOk.intro (args := [_]) (rs := []) T_ok Tryz.func23 Tryz.call23 rfl rfl (by kernel_rfl) rfl rfl ?_
  repeat (first | exact endA | refine wkP ?_ | refine opB (fun b => ?_) | refine opA (fun a' c' hc1 hc2 => ?_) | (apply GJ.and; exact rfl; intro hg) | (apply GJ.or; exact rfl; intro hg))
  refine name3 hM hT h Take.auto Take.auto Take.auto (fun h1 => ?_)
  generalize nameP (listE l) s = x at *
  obtain ⟨xn, s1⟩ := x
  dsimp only at h1 hk ⊢
  repeat (first | exact endA | refine wkP ?_ | refine opB (fun b => ?_) | refine opA (fun a' c' hc1 hc2 => ?_) | (apply GJ.and; exact rfl; intro hg) | (apply GJ.or; exact rfl; intro hg))
  refine must3 (t := [61]) hT h1 Take.auto Take.auto Take.auto (fun h2 => ?_)
  generalize mustP (listE l) [61] s1 = s2 at *
  repeat (first | exact endA | refine wkP ?_ | refine opB (fun b => ?_) | refine opA (fun a' c' hc1 hc2 => ?_) | (apply GJ.and; exact rfl; intro hg) | (apply GJ.or; exact rfl; intro hg))
  refine rkind25_ok.run hM hT h2 Take.auto Take.auto Take.auto (fun ro2 a2 hl2 h3 => ?_)
  generalize kindP numD (listE l) 25 s2 = k at *
  obtain ⟨kn, s3⟩ := k
  dsimp only at h3 hk ⊢
  have hM2 := hM.le hl2
  have hT2 := hT.up hl2
  repeat (first | exact endA | refine wkP ?_ | refine opB (fun b => ?_) | refine opA (fun a' c' hc1 hc2 => ?_) | (apply GJ.and; exact rfl; intro hg) | (apply GJ.or; exact rfl; intro hg))
  refine must3 (t := [59]) hT2 h3 Take.auto Take.auto Take.auto (fun h4 => ?_)
  generalize mustP (listE l) [59] s3 = s4 at *
  repeat (first | exact endA | refine wkP ?_ | refine opB (fun b => ?_) | refine opA (fun a' c' hc1 hc2 => ?_) | (apply GJ.and; exact rfl; intro hg) | (apply GJ.or; exact rfl; intro hg))
  refine rok_ok h4 Take.auto ?_
  by_cases hc : s4.code = 0
  · rw [if_neg (fun h => h hc)] at hk
    rw [decide_eq_true hc]
    repeat (first | exact endA | refine wkP ?_ | refine opB (fun b => ?_) | refine opA (fun a' c' hc1 hc2 => ?_) | (apply GJ.and; exact rfl; intro hg) | (apply GJ.or; exact rfl; intro hg))
    by_cases hn : s4.defs.length = 64
    · rw [if_pos hn] at hk
      refine CallOk.perm (three (c1 := rdC r la lc l s4 a2) (c2 := ndC s4 a2) (c3 := dfC s4 a2) Take.auto Take.auto Take.auto) ?_
      refine bnameFull_ok hn ?_
      repeat (first | exact endA | refine wkP ?_ | refine opB (fun b => ?_) | refine opA (fun a' c' hc1 hc2 => ?_) | (apply GJ.and; exact rfl; intro hg) | (apply GJ.or; exact rfl; intro hg))
      refine wrong3 (e := 2) (by decide) (by decide) hT2 h4 Take.auto Take.auto Take.auto (fun h5 => ?_)
      have hk2 := hk ro2 a2 hl2 h5
      repeat (first | exact endA | refine wkP ?_ | refine opB (fun b => ?_) | refine opA (fun a' c' hc1 hc2 => ?_) | (apply GJ.and; exact rfl; intro hg) | (apply GJ.or; exact rfl; intro hg))
      exact Wk.outS Sup.auto (.refl _) hk2
    · rw [if_neg hn] at hk
      have h64 := h4.nd
      refine CallOk.perm (three (c1 := rdC r la lc l s4 a2) (c2 := ndC s4 a2) (c3 := dfC s4 a2) Take.auto Take.auto Take.auto) ?_
      refine bnameAt_ok (d := ⟨xn, (kn : Int)⟩) h4 (by omega) (fun a5 h5 => ?_)
      have hk2 := hk ro2 a5 hl2 h5
      repeat (first | exact endA | refine wkP ?_ | refine opB (fun b => ?_) | refine opA (fun a' c' hc1 hc2 => ?_) | (apply GJ.and; exact rfl; intro hg) | (apply GJ.or; exact rfl; intro hg))
      exact Wk.outS Sup.auto (.refl _) hk2
  · rw [if_pos hc] at hk
    rw [decide_eq_false hc]
    have hk2 := hk ro2 a2 hl2 h4
    repeat (first | exact endA | refine wkP ?_ | refine opB (fun b => ?_) | refine opA (fun a' c' hc1 hc2 => ?_) | (apply GJ.and; exact rfl; intro hg) | (apply GJ.or; exact rfl; intro hg))
    exact Wk.outS Sup.auto (.refl _) hk2
end
end Go.Proofs.YtepdapdekaiioaaGreatDoor
end
section
/- Contracts of parse: Parse. -/
namespace Go.Proofs.YtepdapdekaiioaaGreatDoor
open Go Go.E
set_option linter.unusedVariables false
set_option linter.unusedSimpArgs false
set_option linter.unusedSectionVars false
set_option maxRecDepth 10000
/-- A scanned text's tokens, the last one of which is the end. -/
theorem front_five {l : List UInt8} {k : Nat} {w : List UInt8} {n : Nat} (h : frontD l = (k, w, n, 0)) : k ≠ 5 ∧ w.length ≤ l.length := by
  have hf := frontOf h
  refine ⟨hf.five, ?_⟩
  have h1 := congrArg List.length hf.app
  rw [List.length_append, ← hf.len, List.length_drop] at h1
  have h2 : w.length ≤ (showD k w).length := by
    unfold showD
    split <;> simp <;> omega
  have := hf.len
  omega
theorem whole_end : ∀ (ts : List TokD) (a : Nat) (l : List UInt8), WholeD a l ts → (0 < ts.length ∧ ∀ (i : Nat) (t : TokD), ts[i]? = some t → (t.kind = 5 ↔ i + 1 = ts.length)) ∧ (∀ t ∈ ts, t.text.length ≤ l.length) ∧ ∀ t, ts.getLast? = some t → t.a = a + l.length
  | [], a, l, h => h.elim
  | t :: ts, a, l, ⟨ha, h⟩ => by
    rcases h with ⟨h5, ht, rfl, hd⟩ | ⟨n, hd, hf, hw⟩
    · have hg : l.length ≤ gapD false l := by
        have := congrArg List.length hd
        rw [List.length_drop, List.length_nil] at this
        omega
      refine ⟨⟨Nat.zero_lt_one, fun i u hu => ?_⟩, fun u hu => ?_, fun u hu => ?_⟩
      · cases i with
        | zero => simp at hu; subst hu; exact ⟨fun _ => rfl, fun _ => h5⟩
        | succ i => simp at hu
      · simp at hu; subst hu; rw [ht]; exact Nat.zero_le _
      · simp at hu; subst hu
        have := gapD_le l false
        omega
    · obtain ⟨⟨g1, g2⟩, g3, g4⟩ := whole_end ts _ _ hw
      obtain ⟨k5, kw⟩ := front_five hf
      have hF := frontOf hf
      have hn : n ≤ (l.drop (gapD false l)).length := by
        have h1 := congrArg List.length hF.app
        rw [List.length_append, ← hF.len, List.length_drop] at h1
        have := hF.len
        omega
      have hgl := gapD_le l false
      rw [List.length_drop] at hn kw
      have kw : t.text.length ≤ l.length - gapD false l := kw
      refine ⟨⟨by simp, fun i u hu => ?_⟩, fun u hu => ?_, fun u hu => ?_⟩
      · cases i with
        | zero => simp at hu; subst hu; exact ⟨fun h => absurd h k5, fun h => by simp only [List.length_cons] at h; omega⟩
        | succ i =>
          simp at hu
          have := g2 i u hu
          simp
          exact this
      · rcases List.mem_cons.1 hu with rfl | hu
        · omega
        · have := g3 u hu
          simp only [List.length_drop] at this
          omega
      · have : ts ≠ [] := by intro e; subst e; simp at g1
        rw [List.getLast?_cons] at hu
        obtain ⟨v, hv⟩ : ∃ v, ts.getLast? = some v := by
          cases e : ts.getLast? with
          | none => exact absurd (List.getLast?_eq_none_iff.1 e) this
          | some v => exact ⟨v, rfl⟩
        rw [hv] at hu
        simp at hu
        subst hu
        have := g4 v hv
        simp only [List.length_drop] at this
        omega
theorem scan_end {tx : List UInt8} {l : List TokD} {a : Nat} (h : scanD tx = (l, a, 0)) : EndL l ∧ (∀ t ∈ l, t.text.length ≤ tx.length) ∧ tx.length ≤ 65536 ∧ ∀ t, l.getLast? = some t → t.a = tx.length := by
  unfold scanD at h
  split at h
  · cases h
  · obtain ⟨ts, e, hw⟩ := scan_whole _ _ _ _ _ _ (Nat.lt_succ_self _) h
    rw [List.nil_append] at e
    subst e
    obtain ⟨g1, g2, g3⟩ := whole_end _ _ _ hw
    exact ⟨⟨g1.1, g1.2⟩, g2, by omega, fun t ht => by rw [g3 t ht]; omega⟩
/-- What a text is read as: a specification and no fault, or what is wrong, and where. -/
def parseD (tx : List UInt8) : SpecD × Int × Nat :=
  if (scanD tx).2.2 ≠ 0 then (⟨[], []⟩, ((scanD tx).2.2 : Int), (scanD tx).2.1) else
  ((readP numD (scanD tx).1).1, (readP numD (scanD tx).1).2.1, if (readP numD (scanD tx).1).2.1 = 0 then 0 else match (readP numD (scanD tx).1).2.2 with
    | some i => ((scanD tx).1[i]?.getD endT).a
    | none => tx.length)
theorem def_code {l : List TokD} {s : PS} (h : (defP numD (listE l) s).code = 0) : (defP numD (listE l) s).defs.length = s.defs.length + 1 := by
  have hkeep : (mustP (listE l) [59] (kindP numD (listE l) 25 (mustP (listE l) [61] (nameP (listE l) s).2)).2).defs = s.defs := by
    have C : Clo (listE l) (fun z => z.defs = s.defs) := ⟨fun z e _ h => by unfold wrongP; split <;> exact h, fun z h _ => h, fun z e _ h => by unfold wrongP; split <;> exact h, fun z n h => h⟩
    have h0 : InP (fun z => z.defs = s.defs) (listE l) s := ⟨rfl⟩
    exact (InP.must (InP.kind (wideP := numD) 25 _ (InP.must (InP.name h0) [61])) [59]).get
  unfold defP at h ⊢
  dsimp only at h ⊢
  generalize mustP (listE l) [59] (kindP numD (listE l) 25 (mustP (listE l) [61] (nameP (listE l) s).2)).2 = s1 at *
  split at h
  · exact absurd h ‹_›
  rename_i h1
  rw [if_neg h1]
  split at h
  · unfold wrongP at h
    rw [if_pos (Decidable.of_not_not h1)] at h
    cases h
  · rename_i h2
    rw [if_neg h2]
    simp [hkeep]
section
variable {ro : Ro} {own q q1 q2 : Chs} {K : Value → Ro → Chs → Prop} {l : List TokD} {s : PS} {a : SpecA} {la : Option Addr} {lc r : Nat}
theorem scan_last {tx : List UInt8} (hS : SpOk ro) (hl : tx.length ≤ 100000)
    (hk : ∀ ro' l a code a' c', Le ro ro' → scanD tx = (l, a, code) → l.length ≤ 8193 → code ≤ 1000 → a ≤ tx.length → Rs ro' a' l.length c' 3 (toksV l) → K (.tuple #[.slice a' l.length c', faultV code a]) ro' own) :
    CallOk Tryz.prog 9 #[str tx] ro own K :=
  CallOk.lastly (Q := fun v L => ∃ l a code a' c', scanD tx = (l, a, code) ∧ l.length ≤ 8193 ∧ code ≤ 1000 ∧ a ≤ tx.length ∧ v = .tuple #[.slice a' l.length c', faultV code a] ∧ L = [.sl a' l.length c' 40 3 (toksV l)])
    (scan_ok hS hl (fun l a code a' c' h1 h2 h3 h4 h5 h6 => ⟨rfl, [_], rfl, l, a, code, a', c', h1, h2, h3, h4, rfl, rfl⟩)) (fun ro' v L hl hh ⟨l, a, code, a', c', h1, h2, h3, h4, hv, he⟩ => by
    subst hv; subst he
    exact hk ro' l a code a' c' hl h1 h2 h3 h4 (Rs.last (hh _ (List.mem_singleton.2 rfl))))
set_option maxHeartbeats 4000000 in
theorem bspecAt_ok (ho : SpecOk ro ⟨s.nodes, s.defs⟩ a) (hn : s.nodes.length ≤ 100000 ∧ s.defs.length ≤ 100000) (hs : ∀ d ∈ s.nodes, NodeSm d)
    (h1 : checkD ⟨s.nodes, s.defs⟩ ≠ 0 → K (.tuple #[.agg #[.slice none 0 0, .slice none 0 0], .int .i64 (checkD ⟨s.nodes, s.defs⟩)]) ro (rdC r la lc l s a :: q))
    (h2 : checkD ⟨s.nodes, s.defs⟩ = 0 → ∀ ro' a', Le ro ro' → SpecOk ro' ⟨s.nodes, s.defs⟩ a' → K (.tuple #[.agg (specV ⟨s.nodes, s.defs⟩ a').toArray, .int .i64 0]) ro' (rdC r la lc l s a :: q)) :
    CallOk Tryz.prog 18 #[.pointer (some ⟨r, 0 + 2, none⟩)] ro (rdC r la lc l s a :: q) K := by
  unfold rdC readV at h1 h2 ⊢
  refine CallOk.intro (args := [_]) (rs := [_, _]) T_ok Tryz.func18 Tryz.call18 rfl rfl (by kernel_rfl) rfl rfl ?_
  repeat (first | exact endA | refine wkP ?_ | refine opB (fun b => ?_) | refine opA (fun a' c' hc1 hc2 => ?_) | (apply GJ.and; exact rfl; intro hg) | (apply GJ.or; exact rfl; intro hg))
  refine check_ok ho ?_
  by_cases hc : checkD ⟨s.nodes, s.defs⟩ = 0
  · rw [hc]
    repeat (first | exact endA | refine wkP ?_ | refine opB (fun b => ?_) | refine opA (fun a' c' hc1 hc2 => ?_) | (apply GJ.and; exact rfl; intro hg) | (apply GJ.or; exact rfl; intro hg))
    refine sclone_last ho hn hs (fun ro' a' hl' h' => ?_)
    have hk2 := h2 hc ro' a' hl' h'
    repeat (first | exact endA | refine wkP ?_ | refine opB (fun b => ?_) | refine opA (fun a' c' hc1 hc2 => ?_) | (apply GJ.and; exact rfl; intro hg) | (apply GJ.or; exact rfl; intro hg))
    exact Wk.outS Sup.auto (.refl _) hk2
  · have hk2 := h1 hc
    generalize checkD ⟨s.nodes, s.defs⟩ = z at *
    repeat (first | exact endA | refine wkP ?_ | refine opB (fun b => ?_) | refine opA (fun a' c' hc1 hc2 => ?_) | (apply GJ.and; exact rfl; intro hg) | (apply GJ.or; exact rfl; intro hg))
    exact Wk.outS Sup.auto (.refl _) hk2
set_option maxHeartbeats 4000000 in
theorem parse_ok {tx : List UInt8} (hS : SpOk ro) (hM : MaxOk ro) (hl : tx.length ≤ 100000)
    (hk : ∀ ro' a, Le ro ro' → SpecOk ro' (parseD tx).1 a → K (.tuple #[.agg (specV (parseD tx).1 a).toArray, .agg #[.int .i64 (parseD tx).2.1, .int .i64 ((parseD tx).2.2 : Int)]]) ro' own) :
    CallOk Tryz.prog 8 #[str tx] ro own K := by
  unfold parseD at hk
  refine CallOk.intro (args := [_]) (rs := [_, _]) T_ok Tryz.func8 Tryz.call8 rfl rfl (by kernel_rfl) rfl rfl ?_
  repeat (first | exact endA | refine wkP ?_ | refine opB (fun b => ?_) | refine opA (fun a' c' hc1 hc2 => ?_) | (apply GJ.and; exact rfl; intro hg) | (apply GJ.or; exact rfl; intro hg))
  rename_i b2
  obtain ⟨b3, hb3⟩ : ∃ z : Nat, z = b := ⟨_, rfl⟩
  subst hb3
  refine scan_last hS hl (fun ro1 l a code a' c' hl1 hsc h1 h2 h3 h4 => ?_)
  rw [hsc] at hk
  dsimp only at hk
  repeat (first | exact endA | refine wkP ?_ | refine opB (fun b => ?_) | refine opA (fun a' c' hc1 hc2 => ?_) | (apply GJ.and; exact rfl; intro hg) | (apply GJ.or; exact rfl; intro hg))
  by_cases hc : code = 0
  · rw [if_neg (fun h => h hc)] at hk
    subst hc
    obtain ⟨e1, e2, e3, e4⟩ := scan_end hsc
    have hT : ToksOk ro1 a' c' l := ⟨h4, e1.pos, e1.last, h1, fun t ht => by have := e2 t ht; omega⟩
    repeat (first | exact endA | refine wkP ?_ | refine opB (fun b => ?_) | refine opA (fun a' c' hc1 hc2 => ?_) | (apply GJ.and; exact rfl; intro hg) | (apply GJ.or; exact rfl; intro hg))
    rename_i b5
    obtain ⟨r, hr⟩ : ∃ z : Nat, z = b := ⟨_, rfl⟩
    subst hr
    obtain ⟨R, hR⟩ : ∃ R, R = readP numD l := ⟨_, rfl⟩
    rw [← hR] at hk
    unfold readP at hR
    obtain ⟨S, hS2⟩ : ∃ S, S = defsP numD (listE l) 70 startP := ⟨_, rfl⟩
    rw [← hS2] at hR
    refine LoopOk.auto (ι := Bool × PS × SpecA) Keep.auto (fun (m, s, a0) => [(7, .bool m)]) (fun (m, s, a0) => rdC r a' c' l s a0 :: ndC s a0 :: dfC s a0 :: .blk b2 26 [.slice none 0 0, .slice none 0 0] :: .blk b3 29 [.int .i64 0, .int .i64 0] :: own) (fun (m, s, a0) ro2 => RdOk ro2 l s a0 ∧ S = (if m = true ∧ s.code = 0 then defsP numD (listE l) (70 - s.defs.length) s else s)) (fun (m, s, a0) => (if s.code = 0 then 70 - s.defs.length else 0) + (if m = true then 1 else 0)) (true, startP, ⟨none, 0, none, 0, []⟩) ?_ Sub.auto Sup.auto ?_
    · exact ⟨⟨e1.pos, e1.pos, Nat.zero_le _, ⟨rfl, fun i d x h => by simp [startP] at h, ⟨Nat.le_refl _, Nat.zero_le _⟩, ⟨Nat.le_refl _, Nat.zero_le _⟩⟩, fun d hd => (by cases hd), Nat.zero_le _, Nat.zero_le _⟩, by rw [hS2, if_pos ⟨rfl, rfl⟩]; rfl⟩
    clear hS2 hsc
    rintro ⟨m, s, a0⟩ ro2 hl2 ⟨i1, i2⟩
    dsimp only [List.cons_append, List.nil_append] at i1 i2 ⊢
    have hM2 := (hM.le hl1).le hl2
    have hT2 := hT.up hl2
    cases m with
    | false =>
      rw [if_neg (fun h => by cases h.1)] at i2
      subst i2
      repeat (first | exact endA | refine wkP ?_ | refine opB (fun b => ?_) | refine opA (fun a' c' hc1 hc2 => ?_) | (apply GJ.and; exact rfl; intro hg) | (apply GJ.or; exact rfl; intro hg))
      refine rok_ok i1 Take.auto ?_
      by_cases hc0 : S.code = 0
      · rw [if_neg (fun h => h hc0)] at hR
        rw [decide_eq_true hc0]
        repeat (first | exact endA | refine wkP ?_ | refine opB (fun b => ?_) | refine opA (fun a' c' hc1 hc2 => ?_) | (apply GJ.and; exact rfl; intro hg) | (apply GJ.or; exact rfl; intro hg))
        refine CallOk.freeze (c := ndC S a0) Take.auto (fun ro8 hl8 hc8 => ?_)
        refine CallOk.freeze (c := dfC S a0) Take.auto (fun ro9 hl9 hc9 => ?_)
        have hb := (i1.up hl8).up hl9
        have hso : SpecOk ro9 ⟨S.nodes, S.defs⟩ a0 := ⟨hb.build.len, rsUp hl9 (Rs.last hc8), hb.build.each, Rs.last hc9⟩
        have hnn := i1.nn
        have hnd := i1.nd
        refine CallOk.perm (Take.perm (c := rdC r a' c' l S a0) Take.auto) ?_
        refine bspecAt_ok hso ⟨by omega, by omega⟩ i1.sm (fun hck => ?_) (fun hck ro4 a4 hl4 h4 => ?_)
        · rw [if_pos hck] at hR
          subst hR
          dsimp only at hk
          rw [if_neg hck] at hk
          have hk2 := hk ro9 ⟨none, 0, none, 0, []⟩ (((hl1.trans hl2).trans hl8).trans hl9) ⟨rfl, Rs.nil _ 18, fun i d x h => by simp at h, Rs.nil _ 2⟩
          generalize checkD ⟨S.nodes, S.defs⟩ = z at *
          repeat (first | exact endA | refine wkP ?_ | refine opB (fun b => ?_) | refine opA (fun a' c' hc1 hc2 => ?_) | (apply GJ.and; exact rfl; intro hg) | (apply GJ.or; exact rfl; intro hg))
          exact Wk.outS Sup.auto (.refl _) hk2
        · rw [if_neg (fun h => h hck)] at hR
          subst hR
          dsimp only at hk
          rw [if_pos rfl] at hk
          have hk2 := hk ro4 a4 ((((hl1.trans hl2).trans hl8).trans hl9).trans hl4) h4
          repeat (first | exact endA | refine wkP ?_ | refine opB (fun b => ?_) | refine opA (fun a' c' hc1 hc2 => ?_) | (apply GJ.and; exact rfl; intro hg) | (apply GJ.or; exact rfl; intro hg))
          exact Wk.outS Sup.auto (.refl _) hk2
      · rw [if_pos hc0] at hR
        rw [decide_eq_false hc0]
        subst hR
        dsimp only at hk
        rw [if_neg (show ¬ (S.code : Int) = 0 by omega), show (l[S.fat]?.getD endT).a = fatV l S by unfold fatV; rw [if_neg hc0]] at hk
        have hk2 := hk ro2 ⟨none, 0, none, 0, []⟩ (hl1.trans hl2) ⟨rfl, Rs.nil _ 18, fun i d x h => by simp at h, Rs.nil _ 2⟩
        unfold rdC readV
        repeat (first | exact endA | refine wkP ?_ | refine opB (fun b => ?_) | refine opA (fun a' c' hc1 hc2 => ?_) | (apply GJ.and; exact rfl; intro hg) | (apply GJ.or; exact rfl; intro hg))
        exact Wk.outS Sup.auto (.refl _) hk2
    | true =>
      by_cases hc : s.code = 0
      · rw [if_pos ⟨rfl, hc⟩] at i2
        have h64 := i1.nd
        rw [show 70 - s.defs.length = (69 - s.defs.length) + 1 by omega, defsP] at i2
        repeat (first | exact endA | refine wkP ?_ | refine opB (fun b => ?_) | refine opA (fun a' c' hc1 hc2 => ?_) | (apply GJ.and; exact rfl; intro hg) | (apply GJ.or; exact rfl; intro hg))
        refine rok_ok i1 Take.auto ?_
        rw [decide_eq_true hc]
        repeat (first | exact endA | refine wkP ?_ | refine opB (fun b => ?_) | refine opA (fun a' c' hc1 hc2 => ?_) | (apply GJ.and; exact rfl; intro hg) | (apply GJ.or; exact rfl; intro hg))
        refine rdef_ok hM2 hT2 i1 Take.auto Take.auto Take.auto (fun ro3 a3 hl3 h5 => ?_)
        have hdc := def_code (l := l) (s := s)
        generalize defP numD (listE l) s = s3 at *
        repeat (first | exact endA | refine wkP ?_ | refine opB (fun b => ?_) | refine opA (fun a' c' hc1 hc2 => ?_) | (apply GJ.and; exact rfl; intro hg) | (apply GJ.or; exact rfl; intro hg))
        refine rpeek_ok (hT2.up hl3) h5 Take.auto ?_
        repeat (first | exact endA | refine wkP ?_ | refine opB (fun b => ?_) | refine opA (fun a' c' hc1 hc2 => ?_) | (apply GJ.and; exact rfl; intro hg) | (apply GJ.or; exact rfl; intro hg))
        refine Wk.id ⟨(decide (((peekP (listE l) s3).kind : Int) ≠ 5), s3, a3), ?_, ?_, Sub.auto, Sup.auto⟩
        all_goals try dsimp only
        · refine ⟨h5, ?_⟩
          rw [i2]
          have e5 : (decide (((peekP (listE l) s3).kind : Int) ≠ 5) = true ∧ s3.code = 0) ↔ (s3.code = 0 ∧ (peekP (listE l) s3).kind ≠ 5) := by
            rw [decide_eq_true_iff]
            omega
          by_cases hx : s3.code = 0 ∧ (peekP (listE l) s3).kind ≠ 5
          · rw [if_pos hx, if_pos (e5.2 hx), hdc hx.1, show 70 - (s.defs.length + 1) = 69 - s.defs.length by omega]
          · rw [if_neg hx, if_neg (fun h => hx (e5.1 h))]
        · rw [if_pos hc, if_pos rfl]
          have h1 : (if decide (((peekP (listE l) s3).kind : Int) ≠ 5) = true then 1 else 0) ≤ 1 := by split <;> omega
          split
          · rename_i hx
            have := hdc hx
            omega
          · omega
      · rw [if_neg (fun h => hc h.2)] at i2
        subst i2
        repeat (first | exact endA | refine wkP ?_ | refine opB (fun b => ?_) | refine opA (fun a' c' hc1 hc2 => ?_) | (apply GJ.and; exact rfl; intro hg) | (apply GJ.or; exact rfl; intro hg))
        refine rok_ok i1 Take.auto ?_
        have hc0 := hc
        rw [decide_eq_false hc]
        repeat (first | exact endA | refine wkP ?_ | refine opB (fun b => ?_) | refine opA (fun a' c' hc1 hc2 => ?_) | (apply GJ.and; exact rfl; intro hg) | (apply GJ.or; exact rfl; intro hg))
        refine rok_ok i1 Take.auto ?_
        rw [if_pos hc0] at hR
        rw [decide_eq_false hc0]
        subst hR
        dsimp only at hk
        rw [if_neg (show ¬ (S.code : Int) = 0 by omega), show (l[S.fat]?.getD endT).a = fatV l S by unfold fatV; rw [if_neg hc0]] at hk
        have hk2 := hk ro2 ⟨none, 0, none, 0, []⟩ (hl1.trans hl2) ⟨rfl, Rs.nil _ 18, fun i d x h => by simp at h, Rs.nil _ 2⟩
        unfold rdC readV
        repeat (first | exact endA | refine wkP ?_ | refine opB (fun b => ?_) | refine opA (fun a' c' hc1 hc2 => ?_) | (apply GJ.and; exact rfl; intro hg) | (apply GJ.or; exact rfl; intro hg))
        exact Wk.outS Sup.auto (.refl _) hk2
  · rw [if_pos hc] at hk
    have hk2 := hk ro1 ⟨none, 0, none, 0, []⟩ hl1 ⟨rfl, Rs.nil _ 18, fun i d x h => by simp at h, Rs.nil _ 2⟩
    repeat (first | exact endA | refine wkP ?_ | refine opB (fun b => ?_) | refine opA (fun a' c' hc1 hc2 => ?_) | (apply GJ.and; exact rfl; intro hg) | (apply GJ.or; exact rfl; intro hg))
    exact Wk.outS Sup.auto (.refl _) hk2
end
end Go.Proofs.YtepdapdekaiioaaGreatDoor
end
section
/- Contracts of spec: Same, of two that say the same. -/
namespace Go.Proofs.YtepdapdekaiioaaGreatDoor
open Go Go.E
set_option linter.unusedVariables false
set_option maxRecDepth 10000
/-- Two new variables, in whatever order they are made. -/
def both (x y : Nat) (t u : TypeId) (v w : List Value) (env : Env) (ro : Ro) (own : Chs) : Kt := fun env' ro' own' => ro' = ro ∧ ∃ b c : Nat, Sub2 ((x, .pointer (some ⟨b, 0, none⟩)) :: (y, .pointer (some ⟨c, 0, none⟩)) :: env) env' ∧ Sup own' (.blk b t v :: .blk c u w :: own)
theorem both.ok {P : Program} {T : TT} {all : List Oper} {B : Chs} {fo : Fo} {k : Kt} {env : Env} {ro : Ro} {own : Chs} (x y : Nat) (t u : TypeId) (v w : List Value)
    (h : vFo P T all B (both x y t u v w env ro own) fo env ro own) (hk : ∀ b c : Nat, k ((x, .pointer (some ⟨b, 0, none⟩)) :: (y, .pointer (some ⟨c, 0, none⟩)) :: env) ro (.blk b t v :: .blk c u w :: own)) : AllOk (fun Φ => vFo P T all B Φ fo env ro own) k ro :=
  ⟨_, h, fun env' ro' own' _ ⟨e, b, c, h1, h2⟩ => ⟨_, _, h1, h2, by rw [e]; exact hk b c⟩⟩
theorem both.a {P : Program} {T : TT} {all : List Oper} {B : Chs} {env : Env} {ro : Ro} {own own' : Chs} {x y b c : Nat} {t u : TypeId} {v w : List Value} (h : Sup own' (.blk b t v :: .blk c u w :: own)) : vFo P T all B (both x y t u v w env ro own) .leaf ((x, .pointer (some ⟨b, 0, none⟩)) :: (y, .pointer (some ⟨c, 0, none⟩)) :: env) ro own' :=
  ⟨rfl, b, c, fun _ _ h => h, h⟩
theorem both.b {P : Program} {T : TT} {all : List Oper} {B : Chs} {env : Env} {ro : Ro} {own own' : Chs} {x y b c : Nat} {t u : TypeId} {v w : List Value} (h : Sup own' (.blk b t v :: .blk c u w :: own)) (hxy : Nat.beq x y = false) : vFo P T all B (both x y t u v w env ro own) .leaf ((y, .pointer (some ⟨c, 0, none⟩)) :: (x, .pointer (some ⟨b, 0, none⟩)) :: env) ro own' :=
  ⟨rfl, b, c, fun k z hz => by
    change (bif Nat.beq x k then some _ else bif Nat.beq y k then some _ else Go.E.look env k) = some z at hz
    change (bif Nat.beq y k then some _ else bif Nat.beq x k then some _ else Go.E.look env k) = some z
    cases hx : Nat.beq x k with
    | false => rw [hx] at hz; exact hz
    | true =>
      rw [hx] at hz
      have e := Nat.eq_of_beq_eq_true hx
      subst e
      cases hy : Nat.beq y x with
      | false => exact hz
      | true => exact absurd hxy (by rw [Nat.eq_of_beq_eq_true hy, Nat.beq_refl]; simp), h⟩
theorem vOne.at {P : Program} {T : TT} {all : List Oper} {i : Nat} {k : Kt} {env : Env} {ro : Ro} {own : Chs} {d : Option Nat} {op : Op} {ty : TypeId} {pos : String} {af : Array Edge} (hi : all[i]? = some ⟨d, op, ty, pos, af, none⟩) (h : vOp P T op ty d k env ro own) : vOne P T all i k env ro own := by
  unfold vOne; rw [hi]; exact h
theorem vFo.cons {P : Program} {T : TT} {all : List Oper} {B : Chs} {Φ : Kt} {i : Nat} {s b : Fo} {env : Env} {ro : Ro} {own : Chs} (h1 : vOne P T all i (fun env' ro' own' => Stop (Sup own' B ∧ vFo P T all B Φ s env' ro' own')) env ro own) (h2 : vFo P T all B Φ b env ro own) : vFo P T all B Φ (.cons i s b) env ro own := ⟨h1, h2⟩
theorem vFo.nil {P : Program} {T : TT} {all : List Oper} {B : Chs} {Φ : Kt} {env : Env} {ro : Ro} {own : Chs} : vFo P T all B Φ .nil env ro own := trivial
theorem vFo.stop {own B : Chs} {p : Prop} (h1 : Sup own B) (h2 : p) : Stop (Sup own B ∧ p) := ⟨⟨h1, h2⟩⟩
theorem GJ.neF {α : Type} {x : α} {chk : Bool} {A B : Prop} {S R : Bool → Prop} [Decidable (x ≠ x)] (k : A) : GJ (decide (x ≠ x)) false chk A B S R := .split (fun _ => k) (fun e => by simp at e)
theorem Br.ne {α : Type} {x : α} {A B : Prop} [Decidable (x ≠ x)] (k : B) : Br (decide (x ≠ x)) A B := ⟨fun e => by simp at e, fun _ => k⟩
/-- Each type may be, its parts are ahead of it. -/
def Ahead (s : SpecD) : Prop := ∀ (i : Nat) (d : NodeD), s.nodes[i]? = some d → formD d = 0 ∧ ∀ k ∈ kidsD d, 0 ≤ k ∧ k < (i : Int)
theorem ownAll_mem {lim : Nat} : ∀ {ks : List Int} {o o' : List Bool}, ownAll lim ks o = .ok o' → ∀ k ∈ ks, 0 ≤ k ∧ k < (lim : Int)
  | [], o, o', h, k, hk => by cases hk
  | k0 :: ks, o, o', h, k, hk => by
    unfold ownAll at h
    split at h
    · cases h
    · split at h
      · cases h
      · rcases List.mem_cons.1 hk with rfl | hk
        · omega
        · exact ownAll_mem h k hk
theorem nodesAll_ahead : ∀ (ds : List NodeD) (n : Nat) (o o' : List Bool), nodesAll n ds o = .ok o' → ∀ (i : Nat) (d : NodeD), ds[i]? = some d → formD d = 0 ∧ ∀ k ∈ kidsD d, 0 ≤ k ∧ k < ((n + i : Nat) : Int) := by
  intro ds
  induction ds with
  | nil => intro n o o' _ i d h; simp at h
  | cons d0 ds ih =>
    intro n o o' h i d hd
    rw [nodesAll] at h
    split at h
    · cases h
    · rename_i hf
      cases ho : ownAll n (kidsD d0) o with
      | error e => rw [ho] at h; cases h
      | ok o1 =>
        rw [ho] at h
        cases i with
        | zero =>
          simp at hd; subst hd
          exact ⟨by omega, fun k hk => by have := ownAll_mem ho k hk; omega⟩
        | succ i =>
          have := ih (n + 1) o1 o' h i d (by simpa using hd)
          refine ⟨this.1, fun k hk => ?_⟩
          have := this.2 k hk
          omega
theorem ownAll_err {lim : Nat} {e : Int} : ∀ {ks : List Int} {o : List Bool}, ownAll lim ks o = .error e → e ≠ 0
  | [], o, h => by cases h
  | k0 :: ks, o, h => by
    unfold ownAll at h
    split at h
    · cases h; decide
    · split at h
      · cases h; decide
      · exact ownAll_err h
theorem nodesAll_err {e : Int} : ∀ {ds : List NodeD} {n : Nat} {o : List Bool}, nodesAll n ds o = .error e → e ≠ 0
  | [], n, o, h => by cases h
  | d :: ds, n, o, h => by
    rw [nodesAll] at h
    split at h
    · rename_i hf; cases h; exact hf
    · cases ho : ownAll n (kidsD d) o with
      | error e2 => rw [ho] at h; cases h; exact ownAll_err ho
      | ok o1 => rw [ho] at h; exact nodesAll_err h
theorem checkD_ok {s : SpecD} (h : checkD s = 0) : ∃ o o', nodesAll 0 s.nodes (List.replicate s.nodes.length false) = .ok o ∧ ownAll s.nodes.length (s.defs.map (·.type)) o = .ok o' ∧ s.nodes.length ≤ 2048 ∧ s.defs.length ≤ 64 ∧ s.defs ≠ [] ∧ false ∉ o' := by
  unfold checkD at h
  split at h
  · cases h
  · rename_i h0
    unfold checkE at h
    cases h1 : nodesAll 0 s.nodes (List.replicate s.nodes.length false) with
    | error e => rw [h1] at h; exact absurd h (nodesAll_err h1)
    | ok o =>
      rw [h1] at h
      simp only at h
      cases h2 : ownAll s.nodes.length (s.defs.map (·.type)) o with
      | error e => rw [h2] at h; exact absurd h (ownAll_err h2)
      | ok o' =>
        rw [h2] at h
        simp only at h
        refine ⟨o, o', rfl, h2, by omega, by omega, fun e => by rw [e] at h0; simp at h0, fun hm => ?_⟩
        rw [if_pos hm] at h
        cases h
theorem Ahead.of {s : SpecD} (h : checkD s = 0) : Ahead s := by
  obtain ⟨o, o', h1, _⟩ := checkD_ok h
  intro i d hd
  have := nodesAll_ahead _ _ _ _ h1 i d hd
  simpa using this
section
variable {ro : Ro} {own r : Chs} {K : Value → Ro → Chs → Prop} {g : Chunk → Chs}
theorem equalB_ok {a a2 : Option Addr} {n c c2 : Nat} {l : List Bool} (hr : Rs ro a n c 1 (lastV l)) (hr2 : Rs ro a2 n c2 1 (lastV l)) (hk : K (.bool true) ro own) : CallOk Tryz.prog 52 #[.slice a n c, .slice a2 n c2] ro own K := by
  have hl : l.length = n := by have := hr.n1; simpa [lastV] using this
  have hm := hr.max
  have hle := hr.le
  unfold maxLen at hm
  refine CallOk.intro (args := [_, _]) (rs := [_]) T_ok Tryz.func52 Tryz.call52 rfl rfl (by kernel_rfl) rfl rfl ?_
  repeat (first | exact endA | refine wkG ?_ | refine opB (fun b => ?_) | refine opA (fun a' c' hc1 hc2 => ?_) | (show GJ _ _ _ _ _ _ _; first | (apply GJ.and; exact rfl; intro hg) | (apply GJ.or; exact rfl; intro hg) | refine GJ.t omAuto ?_ | refine GJ.f omAuto ?_ | refine GJ.ft omAuto ?_ | refine GJ.ff omAuto ?_))
  refine LoopOk.at (ι := Nat) Keep.auto (fun i => [(13, .int .i64 (i : Int))]) (fun i => own) (fun i => i ≤ n) (fun i => n - i) 0 ?_ Sub.auto Sup.auto ?_
  · omega
  rintro i i1
  dsimp only [List.cons_append, List.nil_append]
  repeat (first | exact endA | refine wkG ?_ | refine opB (fun b => ?_) | refine opA (fun a' c' hc1 hc2 => ?_) | (show GJ _ _ _ _ _ _ _; first | (apply GJ.and; exact rfl; intro hg) | (apply GJ.or; exact rfl; intro hg) | refine GJ.t omAuto ?_ | refine GJ.f omAuto ?_ | refine GJ.ft omAuto ?_ | refine GJ.ff omAuto ?_))
  refine Br.cases (fun hc => ?_) (fun hc => ?_)
  · repeat (first | exact endA | refine wkG ?_ | refine opB (fun b => ?_) | refine opA (fun a' c' hc1 hc2 => ?_) | (show GJ _ _ _ _ _ _ _; first | (apply GJ.and; exact rfl; intro hg) | (apply GJ.or; exact rfl; intro hg) | refine GJ.t omAuto ?_ | refine GJ.f omAuto ?_ | refine GJ.ft omAuto ?_ | refine GJ.ff omAuto ?_))
    refine Br.f (fun h => h rfl) ?_
    repeat (first | exact endA | refine wkG ?_ | refine opB (fun b => ?_) | refine opA (fun a' c' hc1 hc2 => ?_) | (show GJ _ _ _ _ _ _ _; first | (apply GJ.and; exact rfl; intro hg) | (apply GJ.or; exact rfl; intro hg) | refine GJ.t omAuto ?_ | refine GJ.f omAuto ?_ | refine GJ.ft omAuto ?_ | refine GJ.ff omAuto ?_))
    refine Wk.id ⟨i + 1, ⟨rfl, ?_⟩, ?_, Sub.auto, Sup.auto⟩
    all_goals try dsimp only
    · omega
    · omega
  · obtain rfl : i = n := by omega
    repeat (first | exact endA | refine wkG ?_ | refine opB (fun b => ?_) | refine opA (fun a' c' hc1 hc2 => ?_) | (show GJ _ _ _ _ _ _ _; first | (apply GJ.and; exact rfl; intro hg) | (apply GJ.or; exact rfl; intro hg) | refine GJ.t omAuto ?_ | refine GJ.f omAuto ?_ | refine GJ.ft omAuto ?_ | refine GJ.ff omAuto ?_))
    exact Wk.outS Sup.auto (.refl _) hk
set_option maxHeartbeats 2000000 in
theorem same_ok {s : SpecD} {a a2 : SpecA} (ho : SpecOk ro s a) (ho2 : SpecOk ro s a2) (hv : Ahead s) : ∀ (n i : Nat), i < n → i < s.nodes.length → ∀ (ro' : Ro) (own : Chs) (K : Value → Ro → Chs → Prop) [Leq ro ro'], K (.bool true) ro' own → CallOk Tryz.prog 30 #[.agg (specV s a).toArray, .agg (specV s a2).toArray, .int .i64 (i : Nat), .int .i64 (i : Nat)] ro' own K := by
  intro n
  induction n with
  | zero => intro i h; omega
  | succ n ih =>
    intro i hin hi ro' own K hle hk
    have hr1 : Rs ro' a.na s.nodes.length a.nc 18 (nodesV s.nodes a.xs) := ho.nodes.up
    have hr2 : Rs ro' a2.na s.nodes.length a2.nc 18 (nodesV s.nodes a2.xs) := ho2.nodes.up
    have hm := hr1.max
    have hm2 := hr1.le
    unfold maxLen at hm
    obtain ⟨d, hd⟩ : ∃ d, s.nodes[i]? = some d := ⟨_, List.getElem?_eq_getElem hi⟩
    obtain ⟨x, hx⟩ : ∃ x, a.xs[i]? = some x := ⟨_, List.getElem?_eq_getElem (by rw [ho.len]; exact hi)⟩
    obtain ⟨x2, hx2⟩ : ∃ x, a2.xs[i]? = some x := ⟨_, List.getElem?_eq_getElem (by rw [ho2.len]; exact hi)⟩
    have hn1 := ho.each i d x hd hx
    have hn2 := ho2.each i d x2 hd hx2
    have hN1 : NodeOk ro' d x := ⟨hn1.kids.up, hn1.last.up, hn1.fields.up, hn1.cases.up⟩
    have hN2 : NodeOk ro' d x2 := ⟨hn2.kids.up, hn2.last.up, hn2.fields.up, hn2.cases.up⟩
    have hdr1 := nodesV_drop _ _ _ _ _ hd hx
    have hdr2 := nodesV_drop _ _ _ _ _ hd hx2
    obtain ⟨hf, hks⟩ := hv i d hd
    have hsm := form_small hf
    refine CallOk.intro (args := [_, _, _, _]) (rs := [_]) T_ok Tryz.func30 Tryz.call30 rfl rfl (by kernel_rfl) rfl rfl ?_
    repeat (first | exact endA | refine wkG ?_ | refine opB (fun b => ?_) | refine opA (fun a' c' hc1 hc2 => ?_) | (show GJ _ _ _ _ _ _ _; first | (apply GJ.and; exact rfl; intro hg) | (apply GJ.or; exact rfl; intro hg) | refine GJ.t omAuto ?_ | refine GJ.f omAuto ?_ | refine GJ.ft omAuto ?_ | refine GJ.ff omAuto ?_))
    refine Bs.all ?_
    repeat (first | exact endA | refine wkG ?_ | refine opB (fun b => ?_) | refine opA (fun a' c' hc1 hc2 => ?_) | (show GJ _ _ _ _ _ _ _; first | (apply GJ.and; exact rfl; intro hg) | (apply GJ.or; exact rfl; intro hg) | refine GJ.t omAuto ?_ | refine GJ.f omAuto ?_ | refine GJ.ft omAuto ?_ | refine GJ.ff omAuto ?_))
    rw [Int.toNat_natCast]
    refine QOk.loadRow rfl rfl (LdN.at hr1 hdr1) rfl ?_
    repeat (first | exact endA | refine wkG ?_ | refine opB (fun b => ?_) | refine opA (fun a' c' hc1 hc2 => ?_) | (show GJ _ _ _ _ _ _ _; first | (apply GJ.and; exact rfl; intro hg) | (apply GJ.or; exact rfl; intro hg) | refine GJ.t omAuto ?_ | refine GJ.f omAuto ?_ | refine GJ.ft omAuto ?_ | refine GJ.ff omAuto ?_))
    rw [Int.toNat_natCast]
    refine QOk.loadRow rfl rfl (LdN.at hr2 hdr2) rfl ?_
    repeat (first | exact endA | refine wkG ?_ | refine opB (fun b => ?_) | refine opA (fun a' c' hc1 hc2 => ?_) | (show GJ _ _ _ _ _ _ _; first | (apply GJ.and; exact rfl; intro hg) | (apply GJ.or; exact rfl; intro hg) | refine GJ.t omAuto ?_ | refine GJ.f omAuto ?_ | refine GJ.ft omAuto ?_ | refine GJ.ff omAuto ?_))
    refine both.ok 9 10 56 56 (nodeV d x) (nodeV d x2) ?_ (fun b3 b => ?_)
    · repeat' (first | exact vFo.nil | refine vFo.cons (vOne.at (by rfl) ?_) ?_ | exact both.a Sup.auto | exact both.b Sup.auto rfl | refine vFo.stop Sup.auto ?_ | (show Stop (OpOk _ _ _ _ _ _ _); refine Stop.mk ?_) | (show OpOk _ _ _ _ _ _ _; first | refine opB (fun b => ?_) | refine OpOk.storeRow rfl rfl rfl rfl (by rfl) rfl ?_))
    rename_i b1 b2
    repeat (first | exact endA | refine wkU ?_ | (show QOk _ _ _ _ _ _ _; refine QOk.build rfl rfl Nf.auto ?_) | (show GJ _ _ _ _ _ _ _; first | with_reducible refine GJ.neF ?_ | with_reducible refine GJ.neT ?_) | (show Br _ _ _; with_reducible refine Br.ne ?_) | refine opB (fun b => ?_) | refine opA (fun a' c' hc1 hc2 => ?_) | (apply GJ.and; exact rfl; intro hg) | (apply GJ.or; exact rfl; intro hg))
    refine OpOk.neqStruct rfl rfl rfl rfl (by kernel_rfl) (by kernel_rfl) (by kernel_rfl) ?_
    repeat (first | exact endA | refine wkU ?_ | (show QOk _ _ _ _ _ _ _; refine QOk.build rfl rfl Nf.auto ?_) | (show GJ _ _ _ _ _ _ _; first | with_reducible refine GJ.neF ?_ | with_reducible refine GJ.neT ?_) | (show Br _ _ _; with_reducible refine Br.ne ?_) | refine opB (fun b => ?_) | refine opA (fun a' c' hc1 hc2 => ?_) | (apply GJ.and; exact rfl; intro hg) | (apply GJ.or; exact rfl; intro hg))
    refine equalB_ok hn1.last.up hn2.last.up ?_
    repeat (first | exact endA | refine wkU ?_ | (show QOk _ _ _ _ _ _ _; refine QOk.build rfl rfl Nf.auto ?_) | (show GJ _ _ _ _ _ _ _; first | with_reducible refine GJ.neF ?_ | with_reducible refine GJ.neT ?_) | (show Br _ _ _; with_reducible refine Br.ne ?_) | refine opB (fun b => ?_) | refine opA (fun a' c' hc1 hc2 => ?_) | (apply GJ.and; exact rfl; intro hg) | (apply GJ.or; exact rfl; intro hg))
    refine Br.f (by simp) ?_
    repeat (first | exact endA | refine wkU ?_ | (show QOk _ _ _ _ _ _ _; refine QOk.build rfl rfl Nf.auto ?_) | (show GJ _ _ _ _ _ _ _; first | with_reducible refine GJ.neF ?_ | with_reducible refine GJ.neT ?_) | (show Br _ _ _; with_reducible refine Br.ne ?_) | refine opB (fun b => ?_) | refine opA (fun a' c' hc1 hc2 => ?_) | (apply GJ.and; exact rfl; intro hg) | (apply GJ.or; exact rfl; intro hg))
    refine Bs.mk ⟨[.blk b 56 (nodeV d x2), .blk b3 56 (nodeV d x)], Sup.auto, ?_⟩
    repeat (first | exact endA | refine wkU ?_ | (show QOk _ _ _ _ _ _ _; refine QOk.build rfl rfl Nf.auto ?_) | (show GJ _ _ _ _ _ _ _; first | with_reducible refine GJ.neF ?_ | with_reducible refine GJ.neT ?_) | (show Br _ _ _; with_reducible refine Br.ne ?_) | refine opB (fun b => ?_) | refine opA (fun a' c' hc1 hc2 => ?_) | (apply GJ.and; exact rfl; intro hg) | (apply GJ.or; exact rfl; intro hg))
    refine kids_ok hN1 (by omega) (fun k1 n1 c1 g1 g2 g3 => ?_)
    subst g1
    repeat (first | exact endA | refine wkU ?_ | (show QOk _ _ _ _ _ _ _; refine QOk.build rfl rfl Nf.auto ?_) | (show GJ _ _ _ _ _ _ _; first | with_reducible refine GJ.neF ?_ | with_reducible refine GJ.neT ?_) | (show Br _ _ _; with_reducible refine Br.ne ?_) | refine opB (fun b => ?_) | refine opA (fun a' c' hc1 hc2 => ?_) | (apply GJ.and; exact rfl; intro hg) | (apply GJ.or; exact rfl; intro hg))
    refine kids_ok hN2 (by omega) (fun k2 n2 c2 g4 g5 g6 => ?_)
    subst g4
    repeat (first | exact endA | refine wkU ?_ | (show QOk _ _ _ _ _ _ _; refine QOk.build rfl rfl Nf.auto ?_) | (show GJ _ _ _ _ _ _ _; first | with_reducible refine GJ.neF ?_ | with_reducible refine GJ.neT ?_) | (show Br _ _ _; with_reducible refine Br.ne ?_) | refine opB (fun b => ?_) | refine opA (fun a' c' hc1 hc2 => ?_) | (apply GJ.and; exact rfl; intro hg) | (apply GJ.or; exact rfl; intro hg))
    have hF1 := hN1.fields
    have hF2 := hN2.fields
    have hC1 := hN1.cases
    have hC2 := hN2.cases
    refine LoopOk.at (ι := Nat) Keep.auto (fun j => [(150, .int .i64 (j : Int))]) (fun j => .sl k2 (kidsD d).length c2 3 1 (kidsV (kidsD d)) :: .sl k1 (kidsD d).length c1 3 1 (kidsV (kidsD d)) :: .blk b 56 (nodeV d x2) :: .blk b3 56 (nodeV d x) :: .blk b2 26 (specV s a2) :: .blk b1 26 (specV s a) :: own) (fun j => j ≤ d.fields.length) (fun j => d.fields.length - j) 0 ?_ Sub.auto Sup.auto ?_
    · omega
    rintro j j1
    dsimp only [List.cons_append, List.nil_append]
    repeat (first | exact endA | refine wkG ?_ | refine opB (fun b => ?_) | refine opA (fun a' c' hc1 hc2 => ?_) | (show GJ _ _ _ _ _ _ _; first | (apply GJ.and; exact rfl; intro hg) | (apply GJ.or; exact rfl; intro hg) | refine GJ.t omAuto ?_ | refine GJ.f omAuto ?_ | refine GJ.ft omAuto ?_ | refine GJ.ff omAuto ?_))
    refine Br.cases (fun hc => ?_) (fun hc => ?_)
    · have hdf := fieldsV_drop d.fields (i := j) (by omega)
      generalize d.fields[j]'(by omega) = f at hdf
      repeat (first | exact endA | refine wkU ?_ | (show QOk _ _ _ _ _ _ _; refine QOk.build rfl rfl Nf.auto ?_) | (show GJ _ _ _ _ _ _ _; first | with_reducible refine GJ.neF ?_ | with_reducible refine GJ.neT ?_) | (show Br _ _ _; with_reducible refine Br.ne ?_) | refine opB (fun b => ?_) | refine opA (fun a' c' hc1 hc2 => ?_) | (apply GJ.and; exact rfl; intro hg) | (apply GJ.or; exact rfl; intro hg))
      refine Bs.mk ⟨[.blk b 56 (nodeV d x2), .blk b3 56 (nodeV d x)], Sup.auto, ?_⟩
      repeat (first | exact endA | refine wkU ?_ | (show QOk _ _ _ _ _ _ _; refine QOk.build rfl rfl Nf.auto ?_) | (show GJ _ _ _ _ _ _ _; first | with_reducible refine GJ.neF ?_ | with_reducible refine GJ.neT ?_) | (show Br _ _ _; with_reducible refine Br.ne ?_) | refine opB (fun b => ?_) | refine opA (fun a' c' hc1 hc2 => ?_) | (apply GJ.and; exact rfl; intro hg) | (apply GJ.or; exact rfl; intro hg))
      rw [Int.toNat_natCast]
      refine QOk.loadRow rfl rfl (LdN.at hF1 hdf) rfl ?_
      repeat (first | exact endA | refine wkU ?_ | (show QOk _ _ _ _ _ _ _; refine QOk.build rfl rfl Nf.auto ?_) | (show GJ _ _ _ _ _ _ _; first | with_reducible refine GJ.neF ?_ | with_reducible refine GJ.neT ?_) | (show Br _ _ _; with_reducible refine Br.ne ?_) | refine opB (fun b => ?_) | refine opA (fun a' c' hc1 hc2 => ?_) | (apply GJ.and; exact rfl; intro hg) | (apply GJ.or; exact rfl; intro hg))
      rw [Int.toNat_natCast]
      refine QOk.loadRow rfl rfl (LdN.at hF2 hdf) rfl ?_
      repeat (first | exact endA | refine wkU ?_ | (show QOk _ _ _ _ _ _ _; refine QOk.build rfl rfl Nf.auto ?_) | (show GJ _ _ _ _ _ _ _; first | with_reducible refine GJ.neF ?_ | with_reducible refine GJ.neT ?_) | (show Br _ _ _; with_reducible refine Br.ne ?_) | refine opB (fun b => ?_) | refine opA (fun a' c' hc1 hc2 => ?_) | (apply GJ.and; exact rfl; intro hg) | (apply GJ.or; exact rfl; intro hg))
      refine both.ok 14 15 66 66 (fieldV f) (fieldV f) ?_ (fun b5 b6 => ?_)
      · repeat' (first | exact vFo.nil | refine vFo.cons (vOne.at (by rfl) ?_) ?_ | exact both.a Sup.auto | exact both.b Sup.auto rfl | refine vFo.stop Sup.auto ?_ | (show Stop (OpOk _ _ _ _ _ _ _); refine Stop.mk ?_) | (show OpOk _ _ _ _ _ _ _; first | refine opB (fun b => ?_) | refine OpOk.storeRow rfl rfl rfl rfl (by rfl) rfl ?_))
      repeat (first | exact endA | refine wkU ?_ | (show QOk _ _ _ _ _ _ _; refine QOk.build rfl rfl Nf.auto ?_) | (show GJ _ _ _ _ _ _ _; first | with_reducible refine GJ.neF ?_ | with_reducible refine GJ.neT ?_) | (show Br _ _ _; with_reducible refine Br.ne ?_) | refine opB (fun b => ?_) | refine opA (fun a' c' hc1 hc2 => ?_) | (apply GJ.and; exact rfl; intro hg) | (apply GJ.or; exact rfl; intro hg))
      refine Wk.id ⟨j + 1, ⟨rfl, ?_⟩, ?_, Sub.auto, Sup.auto⟩
      all_goals try dsimp only
      · omega
      · omega
    · obtain rfl : j = d.fields.length := by omega
      repeat (first | exact endA | refine wkU ?_ | (show QOk _ _ _ _ _ _ _; refine QOk.build rfl rfl Nf.auto ?_) | (show GJ _ _ _ _ _ _ _; first | with_reducible refine GJ.neF ?_ | with_reducible refine GJ.neT ?_) | (show Br _ _ _; with_reducible refine Br.ne ?_) | refine opB (fun b => ?_) | refine opA (fun a' c' hc1 hc2 => ?_) | (apply GJ.and; exact rfl; intro hg) | (apply GJ.or; exact rfl; intro hg))
      refine LoopOk.at (ι := Nat) Keep.auto (fun j => [(193, .int .i64 (j : Int))]) (fun j => .sl k2 (kidsD d).length c2 3 1 (kidsV (kidsD d)) :: .sl k1 (kidsD d).length c1 3 1 (kidsV (kidsD d)) :: .blk b 56 (nodeV d x2) :: .blk b3 56 (nodeV d x) :: .blk b2 26 (specV s a2) :: .blk b1 26 (specV s a) :: own) (fun j => j ≤ d.cases.length) (fun j => d.cases.length - j) 0 ?_ Sub.auto Sup.auto ?_
      · omega
      rintro j j1
      dsimp only [List.cons_append, List.nil_append]
      repeat (first | exact endA | refine wkG ?_ | refine opB (fun b => ?_) | refine opA (fun a' c' hc1 hc2 => ?_) | (show GJ _ _ _ _ _ _ _; first | (apply GJ.and; exact rfl; intro hg) | (apply GJ.or; exact rfl; intro hg) | refine GJ.t omAuto ?_ | refine GJ.f omAuto ?_ | refine GJ.ft omAuto ?_ | refine GJ.ff omAuto ?_))
      refine Br.cases (fun hc => ?_) (fun hc => ?_)
      · have hdc := casesV_drop d.cases (i := j) (by omega)
        generalize d.cases[j]'(by omega) = f at hdc
        have hcell : (casesV d.cases)[j * 2 + 0]? = some (.int .u64 (f.value : Nat)) := by
          have := congrArg (·[0]?) hdc
          simpa [caseV, List.getElem?_take, List.getElem?_drop] using this
        repeat (first | exact endA | refine wkU ?_ | (show QOk _ _ _ _ _ _ _; refine QOk.build rfl rfl Nf.auto ?_) | (show GJ _ _ _ _ _ _ _; first | with_reducible refine GJ.neF ?_ | with_reducible refine GJ.neT ?_) | (show Br _ _ _; with_reducible refine Br.ne ?_) | refine opB (fun b => ?_) | refine opA (fun a' c' hc1 hc2 => ?_) | (apply GJ.and; exact rfl; intro hg) | (apply GJ.or; exact rfl; intro hg))
        rw [Int.toNat_natCast, Nat.add_assoc]
        refine QOk.load rfl rfl (Ld.rs hC1 hcell) ?_
        repeat (first | exact endA | refine wkU ?_ | (show QOk _ _ _ _ _ _ _; refine QOk.build rfl rfl Nf.auto ?_) | (show GJ _ _ _ _ _ _ _; first | with_reducible refine GJ.neF ?_ | with_reducible refine GJ.neT ?_) | (show Br _ _ _; with_reducible refine Br.ne ?_) | refine opB (fun b => ?_) | refine opA (fun a' c' hc1 hc2 => ?_) | (apply GJ.and; exact rfl; intro hg) | (apply GJ.or; exact rfl; intro hg))
        rw [Int.toNat_natCast, Nat.add_assoc]
        refine QOk.load rfl rfl (Ld.rs hC2 hcell) ?_
        repeat (first | exact endA | refine wkU ?_ | (show QOk _ _ _ _ _ _ _; refine QOk.build rfl rfl Nf.auto ?_) | (show GJ _ _ _ _ _ _ _; first | with_reducible refine GJ.neF ?_ | with_reducible refine GJ.neT ?_) | (show Br _ _ _; with_reducible refine Br.ne ?_) | refine opB (fun b => ?_) | refine opA (fun a' c' hc1 hc2 => ?_) | (apply GJ.and; exact rfl; intro hg) | (apply GJ.or; exact rfl; intro hg))
        refine Wk.id ⟨j + 1, ⟨rfl, ?_⟩, ?_, Sub.auto, Sup.auto⟩
        all_goals try dsimp only
        · omega
        · omega
      · obtain rfl : j = d.cases.length := by omega
        repeat (first | exact endA | refine wkU ?_ | (show QOk _ _ _ _ _ _ _; refine QOk.build rfl rfl Nf.auto ?_) | (show GJ _ _ _ _ _ _ _; first | with_reducible refine GJ.neF ?_ | with_reducible refine GJ.neT ?_) | (show Br _ _ _; with_reducible refine Br.ne ?_) | refine opB (fun b => ?_) | refine opA (fun a' c' hc1 hc2 => ?_) | (apply GJ.and; exact rfl; intro hg) | (apply GJ.or; exact rfl; intro hg))
        refine LoopOk.at (ι := Nat) Keep.auto (fun j => [(212, .int .i64 (j : Int))]) (fun j => .sl k2 (kidsD d).length c2 3 1 (kidsV (kidsD d)) :: .sl k1 (kidsD d).length c1 3 1 (kidsV (kidsD d)) :: .blk b 56 (nodeV d x2) :: .blk b3 56 (nodeV d x) :: .blk b2 26 (specV s a2) :: .blk b1 26 (specV s a) :: own) (fun j => j ≤ (kidsD d).length) (fun j => (kidsD d).length - j) 0 ?_ Sub.auto Sup.auto ?_
        · omega
        rintro j j1
        dsimp only [List.cons_append, List.nil_append]
        repeat (first | exact endA | refine wkG ?_ | refine opB (fun b => ?_) | refine opA (fun a' c' hc1 hc2 => ?_) | (show GJ _ _ _ _ _ _ _; first | (apply GJ.and; exact rfl; intro hg) | (apply GJ.or; exact rfl; intro hg) | refine GJ.t omAuto ?_ | refine GJ.f omAuto ?_ | refine GJ.ft omAuto ?_ | refine GJ.ff omAuto ?_))
        refine Br.cases (fun hc => ?_) (fun hc => ?_)
        · have hmem : (kidsD d)[j]! ∈ kidsD d := by rw [List.getElem!_eq_getElem?_getD, List.getElem?_eq_getElem (by omega)]; exact List.getElem_mem _
          have hkk := hks _ hmem
          obtain ⟨m, hm'⟩ : ∃ m : Nat, (kidsD d)[j]! = (m : Int) := ⟨((kidsD d)[j]!).toNat, by omega⟩
          repeat (first | exact endA | refine wkU ?_ | (show QOk _ _ _ _ _ _ _; refine QOk.build rfl rfl Nf.auto ?_) | (show GJ _ _ _ _ _ _ _; first | with_reducible refine GJ.neF ?_ | with_reducible refine GJ.neT ?_) | (show Br _ _ _; with_reducible refine Br.ne ?_) | refine opB (fun b => ?_) | refine opA (fun a' c' hc1 hc2 => ?_) | (apply GJ.and; exact rfl; intro hg) | (apply GJ.or; exact rfl; intro hg))
          rw [Int.toNat_natCast, hm']
          have g3' := g3
          unfold maxLen at g3'
          refine ih m (by omega) (by omega) ro' _ _ ?_
          repeat (first | exact endA | refine wkU ?_ | (show QOk _ _ _ _ _ _ _; refine QOk.build rfl rfl Nf.auto ?_) | (show GJ _ _ _ _ _ _ _; first | with_reducible refine GJ.neF ?_ | with_reducible refine GJ.neT ?_) | (show Br _ _ _; with_reducible refine Br.ne ?_) | refine opB (fun b => ?_) | refine opA (fun a' c' hc1 hc2 => ?_) | (apply GJ.and; exact rfl; intro hg) | (apply GJ.or; exact rfl; intro hg))
          refine Wk.id ⟨j + 1, ⟨rfl, ?_⟩, ?_, Sub.auto, Sup.auto⟩
          all_goals try dsimp only
          · omega
          · omega
        · obtain rfl : j = (kidsD d).length := by omega
          repeat (first | exact endA | refine wkU ?_ | (show QOk _ _ _ _ _ _ _; refine QOk.build rfl rfl Nf.auto ?_) | (show GJ _ _ _ _ _ _ _; first | with_reducible refine GJ.neF ?_ | with_reducible refine GJ.neT ?_) | (show Br _ _ _; with_reducible refine Br.ne ?_) | refine opB (fun b => ?_) | refine opA (fun a' c' hc1 hc2 => ?_) | (apply GJ.and; exact rfl; intro hg) | (apply GJ.or; exact rfl; intro hg))
          exact Wk.outS Sup.auto (.refl _) hk
end
end Go.Proofs.YtepdapdekaiioaaGreatDoor
end
section
/- Contracts of spec: Same, from outside; what the law's own builder does. -/
namespace Go.Proofs.YtepdapdekaiioaaGreatDoor
open Go Go.E
set_option linter.unusedVariables false
set_option maxRecDepth 10000
section
variable {ro : Ro} {own r : Chs} {K : Value → Ro → Chs → Prop} {g : Chunk → Chs}
set_option maxHeartbeats 1000000 in
theorem msame_ok {s : SpecD} {a a2 : SpecA} (ho : SpecOk ro s a) (ho2 : SpecOk ro s a2) (hv : Ahead s) (hd : ∀ d ∈ s.defs, 0 ≤ d.type ∧ d.type < (s.nodes.length : Int)) (hk : K (.bool true) ro own) : CallOk Tryz.prog 12 #[.agg (specV s a).toArray, .agg (specV s a2).toArray] ro own K := by
  have hr2 := ho.defs
  have hr3 := ho2.defs
  have hm2 := hr2.max
  have hle2 := hr2.le
  have hm3 := hr3.max
  have hle3 := hr3.le
  unfold maxLen at hm2 hm3
  refine CallOk.intro (args := [_, _]) (rs := [_]) T_ok Tryz.func12 Tryz.call12 rfl rfl (by kernel_rfl) rfl rfl ?_
  repeat (first | exact endA | refine wkU ?_ | (show QOk _ _ _ _ _ _ _; refine QOk.build rfl rfl Nf.auto ?_) | (show GJ _ _ _ _ _ _ _; first | with_reducible refine GJ.neF ?_ | with_reducible refine GJ.neT ?_) | (show Br _ _ _; with_reducible refine Br.ne ?_) | refine opB (fun b => ?_) | refine opA (fun a' c' hc1 hc2 => ?_) | (apply GJ.and; exact rfl; intro hg) | (apply GJ.or; exact rfl; intro hg))
  rename_i b1
  refine LoopOk.at (ι := Nat) Keep.auto (fun i => [(25, .int .i64 (i : Int))]) (fun i => .blk b 26 (specV s a2) :: .blk b1 26 (specV s a) :: own) (fun i => i ≤ s.defs.length) (fun i => s.defs.length - i) 0 ?_ Sub.auto Sup.auto ?_
  · omega
  rintro i i1
  dsimp only [List.cons_append, List.nil_append]
  repeat (first | exact endA | refine wkG ?_ | refine opB (fun b => ?_) | refine opA (fun a' c' hc1 hc2 => ?_) | (show GJ _ _ _ _ _ _ _; first | (apply GJ.and; exact rfl; intro hg) | (apply GJ.or; exact rfl; intro hg) | refine GJ.t omAuto ?_ | refine GJ.f omAuto ?_ | refine GJ.ft omAuto ?_ | refine GJ.ff omAuto ?_))
  refine Br.cases (fun hg => ?_) (fun hg => ?_)
  · have hdf := defsV_drop s.defs (i := i) (by omega)
    have hmem := hd (s.defs[i]'(by omega)) (List.getElem_mem _)
    generalize s.defs[i]'(by omega) = f at hdf hmem
    obtain ⟨m, hm⟩ : ∃ m : Nat, f.type = (m : Int) := ⟨f.type.toNat, by omega⟩
    have hc0 : (defsV s.defs)[i * 2 + 0]? = some (str f.name) := by
      have := congrArg (·[0]?) hdf
      simpa [defV, List.getElem?_take, List.getElem?_drop] using this
    have hc1 : (defsV s.defs)[i * 2 + 1]? = some (.int .i64 (m : Int)) := by
      rw [← hm]
      have := congrArg (·[1]?) hdf
      simpa [defV, List.getElem?_take, List.getElem?_drop] using this
    repeat (first | exact endA | refine wkU ?_ | (show QOk _ _ _ _ _ _ _; refine QOk.build rfl rfl Nf.auto ?_) | (show GJ _ _ _ _ _ _ _; first | with_reducible refine GJ.neF ?_ | with_reducible refine GJ.neT ?_) | (show Br _ _ _; with_reducible refine Br.ne ?_) | refine opB (fun b => ?_) | refine opA (fun a' c' hc1 hc2 => ?_) | (apply GJ.and; exact rfl; intro hg) | (apply GJ.or; exact rfl; intro hg))
    rw [Int.toNat_natCast, Nat.add_assoc]
    refine QOk.load rfl rfl (Ld.rs hr2 hc0) ?_
    repeat (first | exact endA | refine wkU ?_ | (show QOk _ _ _ _ _ _ _; refine QOk.build rfl rfl Nf.auto ?_) | (show GJ _ _ _ _ _ _ _; first | with_reducible refine GJ.neF ?_ | with_reducible refine GJ.neT ?_) | (show Br _ _ _; with_reducible refine Br.ne ?_) | refine opB (fun b => ?_) | refine opA (fun a' c' hc1 hc2 => ?_) | (apply GJ.and; exact rfl; intro hg) | (apply GJ.or; exact rfl; intro hg))
    rw [Int.toNat_natCast, Nat.add_assoc]
    refine QOk.load rfl rfl (Ld.rs hr3 hc0) ?_
    repeat (first | exact endA | refine wkU ?_ | (show QOk _ _ _ _ _ _ _; refine QOk.build rfl rfl Nf.auto ?_) | (show GJ _ _ _ _ _ _ _; first | with_reducible refine GJ.neF ?_ | with_reducible refine GJ.neT ?_) | (show Br _ _ _; with_reducible refine Br.ne ?_) | refine opB (fun b => ?_) | refine opA (fun a' c' hc1 hc2 => ?_) | (apply GJ.and; exact rfl; intro hg) | (apply GJ.or; exact rfl; intro hg))
    rw [Int.toNat_natCast, Nat.add_assoc]
    refine QOk.load rfl rfl (Ld.rs hr2 hc1) ?_
    repeat (first | exact endA | refine wkU ?_ | (show QOk _ _ _ _ _ _ _; refine QOk.build rfl rfl Nf.auto ?_) | (show GJ _ _ _ _ _ _ _; first | with_reducible refine GJ.neF ?_ | with_reducible refine GJ.neT ?_) | (show Br _ _ _; with_reducible refine Br.ne ?_) | refine opB (fun b => ?_) | refine opA (fun a' c' hc1 hc2 => ?_) | (apply GJ.and; exact rfl; intro hg) | (apply GJ.or; exact rfl; intro hg))
    rw [Int.toNat_natCast, Nat.add_assoc]
    refine QOk.load rfl rfl (Ld.rs hr3 hc1) ?_
    repeat (first | exact endA | refine wkU ?_ | (show QOk _ _ _ _ _ _ _; refine QOk.build rfl rfl Nf.auto ?_) | (show GJ _ _ _ _ _ _ _; first | with_reducible refine GJ.neF ?_ | with_reducible refine GJ.neT ?_) | (show Br _ _ _; with_reducible refine Br.ne ?_) | refine opB (fun b => ?_) | refine opA (fun a' c' hc1 hc2 => ?_) | (apply GJ.and; exact rfl; intro hg) | (apply GJ.or; exact rfl; intro hg))
    refine same_ok ho ho2 hv (m + 1) m (by omega) (by omega) ro _ _ ?_
    repeat (first | exact endA | refine wkU ?_ | (show QOk _ _ _ _ _ _ _; refine QOk.build rfl rfl Nf.auto ?_) | (show GJ _ _ _ _ _ _ _; first | with_reducible refine GJ.neF ?_ | with_reducible refine GJ.neT ?_) | (show Br _ _ _; with_reducible refine Br.ne ?_) | refine opB (fun b => ?_) | refine opA (fun a' c' hc1 hc2 => ?_) | (apply GJ.and; exact rfl; intro hg) | (apply GJ.or; exact rfl; intro hg))
    refine Wk.id ⟨i + 1, ⟨rfl, ?_⟩, ?_, Sub.auto, Sup.auto⟩
    all_goals try dsimp only
    · omega
    · omega
  · repeat (first | exact endA | refine wkU ?_ | (show QOk _ _ _ _ _ _ _; refine QOk.build rfl rfl Nf.auto ?_) | (show GJ _ _ _ _ _ _ _; first | with_reducible refine GJ.neF ?_ | with_reducible refine GJ.neT ?_) | (show Br _ _ _; with_reducible refine Br.ne ?_) | refine opB (fun b => ?_) | refine opA (fun a' c' hc1 hc2 => ?_) | (apply GJ.and; exact rfl; intro hg) | (apply GJ.or; exact rfl; intro hg))
    exact Wk.outS Sup.auto (.refl _) hk
end
end Go.Proofs.YtepdapdekaiioaaGreatDoor
end
section
/- Law 12: a text that is read. -/
namespace Go.E
theorem vFo.leaf {P : Program} {T : TT} {all : List Oper} {B : Chs} {Φ : Kt} {env : Env} {ro : Ro} {own : Chs} (h : Φ env ro own) : vFo P T all B Φ .leaf env ro own := h
end Go.E
namespace Go.Proofs.YtepdapdekaiioaaGreatDoor
open Go Go.E
set_option linter.unusedVariables false
set_option linter.unusedSimpArgs false
set_option linter.unusedSectionVars false
set_option maxRecDepth 10000
def textR : List UInt8 := [110, 97, 109, 101, 32, 61, 32, 99, 104, 97, 105, 110, 32, 123, 32, 123, 32, 110, 58, 32, 117, 56, 32, 49, 46, 46, 54, 51, 32, 61, 32, 115, 105, 122, 101, 40, 116, 41, 59, 32, 116, 58, 32, 98, 121, 116, 101, 115, 91, 110, 93, 59, 32, 125, 32, 124, 32, 108, 97, 115, 116, 32, 117, 56, 32, 48, 46, 46, 48, 32, 125, 59, 10, 109, 97, 105, 110, 32, 61, 32, 123, 32, 107, 58, 32, 117, 49, 54, 98, 101, 32, 61, 32, 99, 111, 117, 110, 116, 40, 113, 41, 59, 32, 113, 58, 32, 116, 105, 109, 101, 115, 91, 107, 93, 32, 110, 97, 109, 101, 59, 32, 114, 58, 32, 115, 119, 105, 116, 99, 104, 32, 107, 32, 37, 32, 50, 32, 123, 32, 48, 58, 32, 101, 109, 112, 116, 121, 59, 32, 101, 108, 115, 101, 58, 32, 47, 97, 47, 59, 32, 125, 59, 32, 99, 58, 32, 117, 51, 50, 98, 101, 32, 61, 32, 99, 114, 99, 40, 107, 46, 46, 113, 41, 59, 32, 119, 58, 32, 119, 105, 116, 104, 105, 110, 91, 50, 42, 107, 43, 49, 93, 32, 109, 97, 110, 121, 32, 118, 97, 114, 105, 110, 116, 59, 32, 125, 59]
def nodeR : NodeD := ⟨5, 0, false, false, false, 0, 0, [], [], 0, 0, [], [], [⟨[107], 5, 2, [113], []⟩, ⟨[113], 7, 0, [], []⟩, ⟨[114], 10, 0, [], []⟩, ⟨[99], 11, 3, [107], [113]⟩, ⟨[119], 14, 0, [], []⟩], [], 0, [], 0⟩
def nodeW : NodeD := ⟨8, 0, false, false, false, 0, 0, [], [107], 2, 1, [13], [], [], [], 0, [], 0⟩
def specR : SpecD := ⟨[⟨1, 1, false, false, false, 1, 63, [], [], 0, 0, [], [], [], [], 0, [], 0⟩,
  ⟨4, 0, false, false, false, 0, 0, [], [110], 1, 0, [], [], [], [], 0, [], 0⟩,
  ⟨5, 0, false, false, false, 0, 0, [], [], 0, 0, [], [], [⟨[110], 0, 1, [116], []⟩, ⟨[116], 1, 0, [], []⟩], [], 0, [], 0⟩,
  ⟨1, 1, false, false, false, 0, 0, [], [], 0, 0, [], [], [], [], 0, [], 0⟩,
  ⟨11, 0, false, false, false, 0, 0, [], [], 0, 0, [2, 3], [false, true], [], [], 0, [], 0⟩,
  ⟨1, 2, false, false, false, 0, 65535, [], [], 0, 0, [], [], [], [], 0, [], 0⟩,
  ⟨13, 0, false, false, false, 0, 0, [110, 97, 109, 101], [], 0, 0, [], [], [], [], 0, [], 0⟩,
  ⟨6, 0, false, false, false, 0, 0, [], [107], 1, 0, [6], [], [], [], 0, [], 0⟩,
  ⟨12, 0, false, false, false, 0, 0, [], [], 0, 0, [], [], [], [], 0, [], 0⟩,
  ⟨3, 0, false, false, false, 0, 0, [97], [], 0, 0, [], [], [], [], 0, [], 0⟩,
  ⟨9, 0, false, false, false, 0, 0, [], [], 0, 0, [], [], [], [107], 2, [⟨0, 8⟩], 9⟩,
  ⟨1, 4, false, false, false, 0, 4294967295, [], [], 0, 0, [], [], [], [], 0, [], 0⟩,
  ⟨2, 0, false, false, false, 0, 18446744073709551615, [], [], 0, 0, [], [], [], [], 0, [], 0⟩,
  ⟨7, 0, false, false, false, 0, 0, [], [], 0, 0, [12], [], [], [], 0, [], 0⟩,
  ⟨8, 0, false, false, false, 0, 0, [], [107], 2, 1, [13], [], [], [], 0, [], 0⟩,
  ⟨5, 0, false, false, false, 0, 0, [], [], 0, 0, [], [], [⟨[107], 5, 2, [113], []⟩, ⟨[113], 7, 0, [], []⟩, ⟨[114], 10, 0, [], []⟩, ⟨[99], 11, 3, [107], [113]⟩, ⟨[119], 14, 0, [], []⟩], [], 0, [], 0⟩], [⟨[110, 97, 109, 101], 4⟩, ⟨[109, 97, 105, 110], 15⟩]⟩
theorem read_R : parseD textR = (specR, 0, 0) := by kernel_rfl
theorem read_R2 : parseD [109, 97, 105, 110, 32, 61, 32, 117, 56] = (⟨[], []⟩, 5, 9) := by kernel_rfl
theorem check_R : checkD specR = 0 := by kernel_rfl
theorem fix_R : fixedD [117, 50, 52, 108, 101] = some (3, true) := by kernel_rfl
theorem word_R : wordD [109, 97, 110, 121] = true := by kernel_rfl
theorem word_R2 : wordD [109, 97, 105, 110] = false := by kernel_rfl
theorem args_eq {P : Program} {f : FuncId} {xs bs : Array Value} {ro : Ro} {own : Chs} {K : Value → Ro → Chs → Prop} (e : xs = bs) (h : CallOk P f bs ro own K) : CallOk P f xs ro own K := e ▸ h
section
variable {ro : Ro} {own : Chs} {K : Value → Ro → Chs → Prop}
set_option maxHeartbeats 4000000 in
theorem reads_ok (hS : SpOk ro) (hM : MaxOk ro) (hk : ∀ ro', Le ro ro' → K (.bool true) ro' own) : CallOk Tryz.prog 7 #[] ro own K := by
  refine CallOk.intro (args := []) (rs := [_]) T_ok Tryz.func7 Tryz.call7 rfl rfl (by kernel_rfl) rfl rfl ?_
  repeat (first | exact endA | refine wkP ?_ | refine opB (fun b => ?_) | refine opA (fun a' c' hc1 hc2 => ?_) | (apply GJ.and; exact rfl; intro hg) | (apply GJ.or; exact rfl; intro hg))
  refine args_eq (bs := #[str textR]) (by kernel_rfl) ?_
  refine parse_ok hS hM (by decide) (fun ro1 a1 hl1 h1 => ?_)
  rw [read_R] at h1 ⊢
  dsimp only at h1 ⊢
  obtain ⟨y, hy⟩ : ∃ y, a1.xs[15]? = some y := ⟨_, List.getElem?_eq_getElem (by rw [h1.len]; decide)⟩
  obtain ⟨z, hz⟩ : ∃ y, a1.xs[14]? = some y := ⟨_, List.getElem?_eq_getElem (by rw [h1.len]; decide)⟩
  have e1 : specR.defs.length = 2 := rfl
  have e2 : specR.nodes.length = 16 := rfl
  have e3 : nodeR.fields.length = 5 := rfl
  have hnd := h1.nodes
  have hdf := h1.defs
  have hd1 : ((nodesV specR.nodes a1.xs).drop (15 * 18)).take 18 = nodeV nodeR y := nodesV_drop _ _ _ _ _ rfl hy
  have hd2 : ((nodesV specR.nodes a1.xs).drop (14 * 18)).take 18 = nodeV nodeW z := nodesV_drop _ _ _ _ _ rfl hz
  have hd3 : ((nodesV specR.nodes a1.xs).drop (14 * 18 + 8)).take 3 = [str [107], .int .u64 2, .int .u64 1] := by
    have := congrArg (fun l => (l.drop 8).take 3) hd2
    simpa [List.drop_take, List.take_take, List.drop_drop, nodeV, nodeW] using this
  have hfl := (h1.each 15 nodeR y rfl hy).fields
  repeat (first | exact endA | refine wkP ?_ | refine opB (fun b => ?_) | refine opA (fun a' c' hc1 hc2 => ?_) | (apply GJ.and; exact rfl; intro hg) | (apply GJ.or; exact rfl; intro hg))
  refine check_ok h1 ?_
  rw [check_R]
  repeat (first | exact endA | refine wkP ?_ | refine opB (fun b => ?_) | refine opA (fun a' c' hc1 hc2 => ?_) | (apply GJ.and; exact rfl; intro hg) | (apply GJ.or; exact rfl; intro hg))
  refine OpOk.load rfl rfl (Ld.rs (k := 2) (v := str [109, 97, 105, 110]) hdf (by rfl)) ?_
  repeat (first | exact endA | refine wkP ?_ | refine opB (fun b => ?_) | refine opA (fun a' c' hc1 hc2 => ?_) | (apply GJ.and; exact rfl; intro hg) | (apply GJ.or; exact rfl; intro hg))
  rename_i bS
  obtain ⟨bF, hbF⟩ : ∃ z : Nat, z = b := ⟨_, rfl⟩
  subst hbF
  have hrt : rootD specR = 15 := rfl
  refine AllOk.at (ι := Nat) (fun n => [(0, .bool false), (1, ptr' bS), (3, ptr' n)]) (fun n => .blk n 56 (nodeV nodeR y) :: .blk bS 26 (specV specR a1) :: own) (fun _ => True) ?_ (fun n _ => ?_)
  · repeat' (first | with_reducible exact vFo.nil | ((with_reducible refine vFo.cons ?_ ?_); refine vOne.at (by rfl) ?_) | ((with_reducible refine vFo.leaf ?_); exact ⟨rfl, _, Sub.auto, Sup.auto, trivial⟩) | (show Stop (OpOk _ _ _ _ _ _ _); refine Stop.mk ?_) | (show Stop (CallOk _ _ _ _ _ _); refine Stop.mk ?_) | (show CallOk _ _ _ _ _ _; refine root_ok h1 ?_) | (show OpOk _ _ _ _ _ _ _; first | refine opB (fun b => ?_) | refine OpOk.loadRow rfl rfl (LdN.at hnd hd1) rfl ?_ | refine OpOk.idx rfl rfl rfl (by omega) AOk.auto ?_ | refine OpOk.storeRow rfl rfl rfl rfl (by rfl) rfl ?_) | refine vFo.stop Sup.auto ?_)
  dsimp only
  repeat (first | exact endA | refine wkP ?_ | refine opB (fun b => ?_) | refine opA (fun a' c' hc1 hc2 => ?_) | (apply GJ.and; exact rfl; intro hg) | (apply GJ.or; exact rfl; intro hg))
  refine parse_ok (hS.le hl1) (hM.le hl1) (by decide) (fun ro2 a2 hl2 h2 => ?_)
  rw [read_R2] at h2 ⊢
  dsimp only at h2 ⊢
  repeat (first | exact endA | refine wkP ?_ | refine opB (fun b => ?_) | refine opA (fun a' c' hc1 hc2 => ?_) | (apply GJ.and; exact rfl; intro hg) | (apply GJ.or; exact rfl; intro hg))
  refine rfixed_ok (by decide) ?_
  rw [fix_R]
  dsimp only [fixV]
  repeat (first | exact endA | refine wkP ?_ | refine opB (fun b => ?_) | refine opA (fun a' c' hc1 hc2 => ?_) | (apply GJ.and; exact rfl; intro hg) | (apply GJ.or; exact rfl; intro hg))
  refine QOk.load rfl rfl (Ld.rs (k := 0 * 5 + 2) (v := .int .i64 2) hfl (by rfl)) ?_
  repeat (first | exact endA | refine wkP ?_ | refine opB (fun b => ?_) | refine opA (fun a' c' hc1 hc2 => ?_) | (apply GJ.and; exact rfl; intro hg) | (apply GJ.or; exact rfl; intro hg))
  refine QOk.load rfl rfl (Ld.rs (k := 3 * 5 + 4) (v := str [113]) hfl (by rfl)) ?_
  repeat (first | exact endA | refine wkP ?_ | refine opB (fun b => ?_) | refine opA (fun a' c' hc1 hc2 => ?_) | (apply GJ.and; exact rfl; intro hg) | (apply GJ.or; exact rfl; intro hg))
  refine QOk.load rfl rfl (Ld.rs (k := 4 * 5 + 1) (v := .int .i64 14) hfl (by rfl)) ?_
  repeat (first | exact endA | refine wkP ?_ | refine opB (fun b => ?_) | refine opA (fun a' c' hc1 hc2 => ?_) | (apply GJ.and; exact rfl; intro hg) | (apply GJ.or; exact rfl; intro hg))
  refine QOk.loadRow rfl rfl (LdN.at hnd hd3) rfl ?_
  repeat (first | exact endA | refine wkP ?_ | refine opB (fun b => ?_) | refine opA (fun a' c' hc1 hc2 => ?_) | (apply GJ.and; exact rfl; intro hg) | (apply GJ.or; exact rfl; intro hg))
  refine QOk.eqlStruct (q := true) rfl rfl rfl (by rfl) (by kernel_rfl) (by kernel_rfl) (by kernel_rfl) ?_
  repeat (first | exact endA | refine wkP ?_ | refine opB (fun b => ?_) | refine opA (fun a' c' hc1 hc2 => ?_) | (apply GJ.and; exact rfl; intro hg) | (apply GJ.or; exact rfl; intro hg))
  refine QOk.eqlStruct (q := true) rfl rfl rfl (by rfl) (by kernel_rfl) (by kernel_rfl) (by kernel_rfl) ?_
  repeat (first | exact endA | refine wkP ?_ | refine opB (fun b => ?_) | refine opA (fun a' c' hc1 hc2 => ?_) | (apply GJ.and; exact rfl; intro hg) | (apply GJ.or; exact rfl; intro hg))
  refine word_okP (t := [109, 97, 110, 121]) ((hM.le hl1).le hl2) (by decide) ?_
  rw [word_R]
  repeat (first | exact endA | refine wkP ?_ | refine opB (fun b => ?_) | refine opA (fun a' c' hc1 hc2 => ?_) | (apply GJ.and; exact rfl; intro hg) | (apply GJ.or; exact rfl; intro hg))
  refine word_okP (t := [109, 97, 105, 110]) ((hM.le hl1).le hl2) (by decide) ?_
  rw [word_R2]
  have hk2 := hk ro2 (hl1.trans hl2)
  repeat (first | exact endA | refine wkP ?_ | refine opB (fun b => ?_) | refine opA (fun a' c' hc1 hc2 => ?_) | (apply GJ.and; exact rfl; intro hg) | (apply GJ.or; exact rfl; intro hg))
  exact Wk.outS Sup.auto (.refl _) hk2
end
end Go.Proofs.YtepdapdekaiioaaGreatDoor
end
section
/- A law's frame where the world's shape is kept; what MaxLen holds. -/
namespace Go.Proofs.YtepdapdekaiioaaGreatDoor
open Go Go.E
set_option linter.unusedVariables false
variable {H : Type} {enc : TypeId × Value → H}
theorem returnsS {a : Assume} {C : Checked} {os : Os} {f : FuncId} {fn : Func} {s : ChangeSpec} {conds : List PathCond} {apart fresh handsOn again : Bool} {X : World → Array Value → Prop}
    (hX : ∀ (w w' : World) (args : Array Value), w.heap = w'.heap → X w args → X w' args)
    (own : ownKnob C.prog.godebug = none) (started : os.Started) (noInit : C.prog.inits.idxOf? f = none) (hfn : C.prog.funcs[f]? = some fn)
    (witness : ∃ (w : World) (tape : Tape) (i : Input), w.os = os ∧ (w.forCall tape i).Shaped C.prog ∧ i.vars = [] ∧ Input.okWide C.prog (w.forCall tape i) .any w.heap.size f i ∧
      ((s.pre enc C.prog fn conds apart (w.forCall tape i).memory i.args ∧ X (w.forCall tape i).memory i.args) ∧ sizedMet enc C.prog fn (OpenSpec.ofChange s) apart (w.forCall tape i).memory i.args) ∧ a.holds C.prog (lone (Frame.enter C.prog f i.args .normal) [] (w.forCall tape i)))
    (contract : ∀ (W : World) (base : Nat) (args : Array Value) (ds gs : List (DataW H)) (before : List MemPlace),
      (∀ (j : Nat) t v, fn.params[j]? = some t → args[j]? = some v → Value.okWide C.prog W .any base t v) →
      DataW.Whole enc C.prog fn.params.toList s.vars apart W args.toList ds gs before →
      conds.all (PathCond.test C.prog ⟨fn.params.toList, ds, s.plain.varTypes C.prog, gs⟩) = true →
      (DataW.weightsEach C.prog (fn.params.toList ++ s.plain.varTypes C.prog) (ds ++ gs)).all (· ≤ reachBytes) = true → X W args → W.ShapedOpen C.prog →
      a.holds C.prog (lone (Frame.enter C.prog f args .normal) [] W) →
      Calls C.prog f args W fun e W' => ∃ v, e = .returned v ∧ s.post enc C.prog fn apart fresh handsOn again W args v W') :
    ReturnsInHanded a C os f .any (fun w args => (s.pre enc C.prog fn conds apart w args ∧ X w args) ∧ sizedMet enc C.prog fn (OpenSpec.ofChange s) apart w args) (s.post enc C.prog fn apart fresh handsOn again) := by
  refine returnsInHanded_of_calls own started noInit witness (fun w tape i _ hshape _ hok hpre hh => ?_)
  obtain ⟨_, _, _, fn2, hfn2, _, _, _, _, hval⟩ := hok
  obtain rfl : fn2 = fn := Option.some.inj (hfn2.symm.trans hfn)
  obtain ⟨⟨⟨ds, gs, before, hw, hc⟩, hx⟩, hz⟩ := hpre
  refine (contract (w.forCall tape i) w.heap.size i.args ds gs before hval (DataW.Whole.of_heap (w' := w.forCall tape i) (by rfl) hw) hc (hz.weights hw) (hX _ _ _ (by rfl) hx) hshape hh).mono fun e W' ⟨v, he, hp⟩ => ?_
  subst he
  exact ChangeSpec.post_blind hp
theorem MaxOk.ofShape {W : World} (h : W.ShapedOpen Tryz.prog) : MaxOk (hm W.heap) := by
  obtain ⟨m, hc⟩ := Go.Proofs.cell_of_shapedOpen_int (g := 2) (t := 3) (k := .i64) (zero := #[.int .i64 0]) h (of_decide_eq_true (by kernel_rfl)) (by kernel_rfl) rfl (by kernel_rfl) (by kernel_rfl) Tryz.underlying3
  refine ⟨m, fun own hp hs => ?_⟩
  obtain ⟨cs, hh, hz, _⟩ := h.1 2 #[.int .i64 0] 3 (of_decide_eq_true (by kernel_rfl)) (by kernel_rfl)
  have h1 := hs.last 2 _ (show hm W.heap 2 = some _ from hh)
  rw [cellAt_of h1]
  simpa [World.cell?, hh] using hc
end Go.Proofs.YtepdapdekaiioaaGreatDoor
end
