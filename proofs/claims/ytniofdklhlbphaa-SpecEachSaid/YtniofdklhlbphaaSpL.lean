/- The law SpecEach. -/
import Derived.Test.YtniofdklhlbphaaSpK
import Derived.Test.YtniofdklhlbphaaSlS
import Derived.Test.YtniofdklhlbphaaSpF
namespace Go.Proofs.Ytniofdklhlbphaa
open Go Go.E
set_option linter.unusedVariables false
set_option linter.unusedSimpArgs false
set_option maxRecDepth 10000
def totT (s : SpecD) (j : Nat) : List Int := ((s.defs.take j).map (·.type)).flatMap (preI (kidsAt s) s.nodes.length)
theorem totT_all (s : SpecD) : totT s s.defs.length = allT s := by unfold totT allT; rw [List.take_length]
theorem totT_succ {s : SpecD} {j : Nat} {d : DefD} (h : s.defs[j]? = some d) : totT s (j + 1) = totT s j ++ preI (kidsAt s) s.nodes.length d.type := by
  unfold totT
  rw [List.take_add_one, h, List.map_append, List.flatMap_append]
  simp
theorem totT_split {s : SpecD} {j : Nat} {d : DefD} (h : s.defs[j]? = some d) : ∃ r, allT s = totT s j ++ preI (kidsAt s) s.nodes.length d.type ++ r := by
  refine ⟨((s.defs.drop (j + 1)).map (·.type)).flatMap (preI (kidsAt s) s.nodes.length), ?_⟩
  rw [← totT_succ h]
  unfold totT allT
  rw [← List.flatMap_append, ← List.map_append, List.take_append_drop]
section
variable {ro : Ro} {own r : Chs} {K : Value → Ro → Chs → Prop} {g : Chunk → Chs}
theorem seen_ok {b : Nat} {p : List Int} {k : Int} {a : Option Addr} {c : Nat} {G R : Chs} (hp : p.length ≤ 100000) (hc : p.length ≤ c) (hm : c ≤ maxLen)
    (hk : ∀ a' c', (p ++ [k]).length ≤ c' → c' ≤ maxLen → K (.bool true) ro (G ++ (.blk b 30 [.slice a' (p ++ [k]).length c'] :: .sl a' (p ++ [k]).length c' 3 1 (kidsV (p ++ [k])) :: R))) :
    CallOk Try.prog 8 (capA [.int .i64 k] #[ptr' b]) ro (G ++ (.blk b 30 [.slice a p.length c] :: .sl a p.length c 3 1 (kidsV p) :: R)) K := by
  refine CallOk.intro (args := [_, _]) (rs := [_]) T_ok Try.func8 Try.call8 rfl rfl (by kernel_rfl) rfl rfl ?_
  repeat (first
    | (show _ ∧ _; exact ⟨rfl, rfl, rfl⟩)
    | refine wkT ?_
    | (show OpOk _ _ _ _ _ _ _; first | refine opB (fun b => ?_) | refine opA (fun a' c' hc1 hc2 => ?_))
    | (show GJ _ _ _ _ _ _ _; first | (apply GJ.and; exact rfl; intro hg) | (apply GJ.or; exact rfl; intro hg)))
  rw [show p.length + 1 = (p ++ [k]).length by simp] at hc1 ⊢
  rw [show kidsV p ++ [.int .i64 k] = kidsV (p ++ [k]) by simp [kidsV]]
  exact Wk.id (hk _ _ hc1 hc2)
theorem count_ok {b b3 : Nat} {n : Nat} {k z : Int} {G R : Chs} {f : Chunk → Chs} [hb : HasBlk R b3 3 [.int .i64 z] f] (hn : n ≤ 100000)
    (hk : K (.bool (decide (((n + 1 : Nat) : Int) ≠ z))) ro (G ++ (.blk b 3 [.int .i64 ((n + 1 : Nat) : Int)] :: R))) :
    CallOk Try.prog 10 (capA [.int .i64 k] #[ptr' b, ptr' b3]) ro (G ++ (.blk b 3 [.int .i64 (n : Int)] :: R)) K := by
  refine CallOk.intro (args := [_, _, _]) (rs := [_]) T_ok Try.func10 Try.call10 rfl rfl (by kernel_rfl) rfl rfl ?_
  repeat (first
    | (show _ ∧ _; exact ⟨rfl, rfl, rfl⟩)
    | refine wkT ?_
    | (show OpOk _ _ _ _ _ _ _; first | refine opB (fun b => ?_) | refine opA (fun a' c' hc1 hc2 => ?_))
    | (show GJ _ _ _ _ _ _ _; first | (apply GJ.and; exact rfl; intro hg) | (apply GJ.or; exact rfl; intro hg)))
  rw [show ((n : Nat) : Int) + 1 = ((n + 1 : Nat) : Int) by omega]
  exact Wk.id hk
set_option maxHeartbeats 2000000 in
theorem seach_ok {s : SpecD} {a : SpecA} {z : Int} (ho : SpecOk ro s a) (hi : SpecIn s) (hk : ∀ ro' own', K (.bool true) ro' own') : CallOk Try.prog 3 #[.agg (specV s a).toArray, .int .i64 z] ro own K := by
  refine CallOk.intro (args := [_, _]) (rs := [_]) T_ok Try.func3 Try.call3 rfl rfl (by kernel_rfl) rfl rfl ?_
  repeat (first
    | (show _ ∧ _; exact ⟨rfl, rfl, rfl⟩)
    | refine wkT ?_
    | (show OpOk _ _ _ _ _ _ _; first | refine opB (fun b => ?_) | refine opA (fun a' c' hc1 hc2 => ?_))
    | (show GJ _ _ _ _ _ _ _; first | (apply GJ.and; exact rfl; intro hg) | (apply GJ.or; exact rfl; intro hg)))
  refine builds_ok (fun ro1 hl1 => ?_)
  have ho1 : SpecOk ro1 s a := ho.le hl1
  repeat (first
    | (show _ ∧ _; exact ⟨rfl, rfl, rfl⟩)
    | refine wkT ?_
    | (show OpOk _ _ _ _ _ _ _; first | refine opB (fun b => ?_) | refine opA (fun a' c' hc1 hc2 => ?_))
    | (show GJ _ _ _ _ _ _ _; first | (apply GJ.and; exact rfl; intro hg) | (apply GJ.or; exact rfl; intro hg)))
  refine small_ok ho1 (fun hns => ?_) (fun hsm => ?_)
  · repeat (first
      | (show _ ∧ _; exact ⟨rfl, rfl, rfl⟩)
      | refine wkT ?_
      | (show OpOk _ _ _ _ _ _ _; first | refine opB (fun b => ?_) | refine opA (fun a' c' hc1 hc2 => ?_))
      | (show GJ _ _ _ _ _ _ _; first | (apply GJ.and; exact rfl; intro hg) | (apply GJ.or; exact rfl; intro hg)))
    exact Wk.id (hk _ _)
  repeat (first
    | (show _ ∧ _; exact ⟨rfl, rfl, rfl⟩)
    | refine wkT ?_
    | (show OpOk _ _ _ _ _ _ _; first | refine opB (fun b => ?_) | refine opA (fun a' c' hc1 hc2 => ?_))
    | (show GJ _ _ _ _ _ _ _; first | (apply GJ.and; exact rfl; intro hg) | (apply GJ.or; exact rfl; intro hg)))
  refine check_ok ho1 ?_
  by_cases hc : checkD s = 0
  rotate_left
  · repeat (first
      | (show _ ∧ _; exact ⟨rfl, rfl, rfl⟩)
      | refine wkT ?_
      | (show OpOk _ _ _ _ _ _ _; first | refine opB (fun b => ?_) | refine opA (fun a' c' hc1 hc2 => ?_))
      | (show GJ _ _ _ _ _ _ _; first | (apply GJ.and; exact rfl; intro hg) | (apply GJ.or; exact rfl; intro hg)))
    exact Wk.id (hk _ _)
  rw [hc]
  repeat (first
    | (show _ ∧ _; exact ⟨rfl, rfl, rfl⟩)
    | refine wkT ?_
    | (show OpOk _ _ _ _ _ _ _; first | refine opB (fun b => ?_) | refine opA (fun a' c' hc1 hc2 => ?_))
    | (show GJ _ _ _ _ _ _ _; first | (apply GJ.and; exact rfl; intro hg) | (apply GJ.or; exact rfl; intro hg)))
  rename_i b2 b3
  obtain ⟨b5, hb5⟩ : ∃ x : Nat, x = b := ⟨_, rfl⟩
  subst hb5
  have hlen := allT_len hc
  have hns := hsm.2.1
  have hnd := hsm.2.2
  have hav := Ahead.of hc
  have hdn := ho1.defs
  refine LoopOk.at (ι := Nat × Option Addr × Nat) Keep.auto (fun (j, a1, c1) => [(26, .int .i64 (j : Int))]) (fun (j, a1, c1) => .blk b5 30 [.slice a1 (totT s j).length c1] :: .sl a1 (totT s j).length c1 3 1 (kidsV (totT s j)) :: .blk b3 3 [.int .i64 z] :: .blk b2 25 (specV s a) :: own) (fun (j, a1, c1) => j ≤ s.defs.length ∧ (totT s j).length ≤ c1 ∧ c1 ≤ maxLen) (fun (j, a1, c1) => s.defs.length - j) (0, none, 0) ?_ Sub.auto Sup.auto ?_
  · exact ⟨Nat.zero_le _, Nat.le_refl _, Nat.zero_le _⟩
  rintro ⟨j, a1, c1⟩ ⟨i1, i2, i3⟩
  dsimp only [List.cons_append, List.nil_append] at i1 i2 i3 ⊢
  repeat (first
    | (show _ ∧ _; exact ⟨rfl, rfl, rfl⟩)
    | refine wkT ?_
    | (show OpOk _ _ _ _ _ _ _; first | refine opB (fun b => ?_) | refine opA (fun a' c' hc1 hc2 => ?_))
    | (show GJ _ _ _ _ _ _ _; first | (apply GJ.and; exact rfl; intro hg) | (apply GJ.or; exact rfl; intro hg)))
  refine Br.cases (fun hlt => ?_) (fun hlt => ?_)
  · have hj : j < s.defs.length := by omega
    obtain ⟨d, hd⟩ : ∃ d, s.defs[j]? = some d := ⟨_, List.getElem?_eq_getElem hj⟩
    have hdg : s.defs[j] = d := by rw [List.getElem?_eq_getElem hj] at hd; exact Option.some.inj hd
    have hdd := defsV_drop s.defs hj
    rw [hdg] at hdd
    obtain ⟨q1, q2⟩ := defs_in hc d (List.mem_of_getElem? hd)
    obtain ⟨k, hk0⟩ := Int.eq_ofNat_of_zero_le q1
    obtain ⟨r, hr⟩ := totT_split hd
    have hsu := totT_succ hd
    rw [hk0] at hr hsu q2
    have hl2 := congrArg List.length hr
    rw [List.length_append, List.length_append, hlen] at hl2
    repeat (first
      | (show _ ∧ _; exact ⟨rfl, rfl, rfl⟩)
      | refine wkT ?_
      | (show OpOk _ _ _ _ _ _ _; first | refine opB (fun b => ?_) | refine opA (fun a' c' hc1 hc2 => ?_))
      | (show GJ _ _ _ _ _ _ _; first | (apply GJ.and; exact rfl; intro hg) | (apply GJ.or; exact rfl; intro hg)))
    rw [Int.toNat_natCast]
    refine OpOk.loadRow rfl rfl (LdN.at hdn hdd) rfl ?_
    repeat (first
      | (show _ ∧ _; exact ⟨rfl, rfl, rfl⟩)
      | refine wkT ?_
      | (show OpOk _ _ _ _ _ _ _; first | refine opB (fun b => ?_) | refine opA (fun a' c' hc1 hc2 => ?_))
      | (show GJ _ _ _ _ _ _ _; first | (apply GJ.and; exact rfl; intro hg) | (apply GJ.or; exact rfl; intro hg)))
    rw [hk0]
    refine each_ok ho1 hav (fy := 8) (cap := #[ptr' b5]) (go := fun _ => true) (T := allT s) (fun p (w : Option Addr × Nat) => .blk b5 30 [.slice w.1 p.length w.2] :: .sl w.1 p.length w.2 3 1 (kidsV p) :: .blk b3 3 [.int .i64 z] :: .blk b2 25 (specV s a) :: own) (fun p w => p.length ≤ w.2 ∧ w.2 ≤ maxLen) ?_ (k + 1) k (by omega) (by omega) (totT s j) r hr (a1, c1) ⟨i2, i3⟩ ro1 [.blk b 32 (defV d)] _ ?_
    · rintro p u r2 hT ⟨a2, c2⟩ ⟨w1, w2⟩ ro2 G K2 hle2 hk2
      have hpl := congrArg List.length hT
      rw [List.length_append, hlen] at hpl
      exact seen_ok (by omega) w1 w2 (fun a' c' h1 h2 => hk2 (a', c') ⟨h1, h2⟩)
    rintro ⟨a2, c2⟩ ⟨w1, w2⟩
    rw [runG_all (fun _ => rfl), ← hsu] at w1 ⊢
    have hat : (totT s (j + 1))[(((totT s j).length : Nat) : Int).toNat]! = (k : Int) := by
      rw [Int.toNat_natCast, hsu, preI_eq hav.kidsAt (by omega)]
      simp
    have hpre : 0 < (preI (kidsAt s) s.nodes.length (k : Int)).length := by rw [preI_eq hav.kidsAt (by omega)]; simp
    have hlt2 : (totT s j).length < (totT s (j + 1)).length := by rw [hsu, List.length_append]; omega
    dsimp only [List.cons_append, List.nil_append] at w1 w2 ⊢
    repeat (first
      | (show _ ∧ _; exact ⟨rfl, rfl, rfl⟩)
      | refine wkT ?_
      | refine Bs.all ?_
      | (show RetOk _ _ _ _ _ _; refine RetOk.of (T := T) (RL.row rfl rfl LdN.hasBlk (by rfl) (RL.tmp rfl (RL.tmp rfl RL.nil))) ?_)
      | (show QOk _ _ _ _ _ _ _; refine QOk.build rfl rfl Nf.auto ?_)
      | (show OpOk _ _ _ _ _ _ _; first | refine opB (fun b => ?_) | refine opA (fun a' c' hc1 hc2 => ?_))
      | (show GJ _ _ _ _ _ _ _; first | refine GJ.t (by decide) ?_ | refine GJ.f (by decide) ?_ | refine GJ.ft (by decide) ?_ | refine GJ.ff (by decide) ?_)
      | (show Br _ _ _; first | refine Br.t (by decide) ?_ | refine Br.f (by decide) ?_)
      | (show GJ _ _ _ _ _ _ _; first | (apply GJ.and; exact rfl; intro hg) | (apply GJ.or; exact rfl; intro hg)))
    refine Wk.id ⟨(j + 1, a2, c2), ⟨rfl, ?_⟩, ?_, Sub.auto, Sup.auto⟩
    all_goals try dsimp only
    · exact ⟨by omega, w1, w2⟩
    · omega
  obtain rfl : j = s.defs.length := by omega
  rw [totT_all] at *
  have hne : s.defs ≠ [] := by obtain ⟨_, _, _, _, _, _, h, _⟩ := checkD_ok hc; exact h
  obtain ⟨m, hm⟩ : ∃ m, s.defs.length = m + 1 := ⟨s.defs.length - 1, by have := List.length_pos_iff.2 hne; omega⟩
  obtain ⟨d, hd⟩ : ∃ d, s.defs[m]? = some d := ⟨_, List.getElem?_eq_getElem (by omega)⟩
  have hroot : rootD s = d.type := by
    unfold rootD
    rw [List.getLast?_eq_getElem?, show s.defs.length - 1 = m by omega, hd]
    rfl
  obtain ⟨q1, q2⟩ := defs_in hc d (List.mem_of_getElem? hd)
  obtain ⟨k, hk0⟩ := Int.eq_ofNat_of_zero_le q1
  obtain ⟨r, hr⟩ := totT_split hd
  rw [hk0] at hr q2 hroot
  have hl2 := congrArg List.length hr
  rw [List.length_append, List.length_append, hlen] at hl2
  repeat (first
    | (show _ ∧ _; exact ⟨rfl, rfl, rfl⟩)
    | refine wkT ?_
    | refine Bs.all ?_
    | (show RetOk _ _ _ _ _ _; refine RetOk.of (T := T) (RL.row rfl rfl LdN.hasBlk (by rfl) (RL.tmp rfl (RL.tmp rfl RL.nil))) ?_)
    | (show QOk _ _ _ _ _ _ _; refine QOk.build rfl rfl Nf.auto ?_)
    | (show OpOk _ _ _ _ _ _ _; first | refine opB (fun b => ?_) | refine opA (fun a' c' hc1 hc2 => ?_))
    | (show GJ _ _ _ _ _ _ _; first | refine GJ.t (by decide) ?_ | refine GJ.f (by decide) ?_ | refine GJ.ft (by decide) ?_ | refine GJ.ff (by decide) ?_)
    | (show Br _ _ _; first | refine Br.t (by decide) ?_ | refine Br.f (by decide) ?_)
    | (show GJ _ _ _ _ _ _ _; first | (apply GJ.and; exact rfl; intro hg) | (apply GJ.or; exact rfl; intro hg)))
  refine root_ok ho1 ?_
  rw [hroot]
  repeat (first
    | (show _ ∧ _; exact ⟨rfl, rfl, rfl⟩)
    | refine wkT ?_
    | refine Bs.all ?_
    | (show RetOk _ _ _ _ _ _; refine RetOk.of (T := T) (RL.row rfl rfl LdN.hasBlk (by rfl) (RL.tmp rfl (RL.tmp rfl RL.nil))) ?_)
    | (show QOk _ _ _ _ _ _ _; refine QOk.build rfl rfl Nf.auto ?_)
    | (show OpOk _ _ _ _ _ _ _; first | refine opB (fun b => ?_) | refine opA (fun a' c' hc1 hc2 => ?_))
    | (show GJ _ _ _ _ _ _ _; first | refine GJ.t (by decide) ?_ | refine GJ.f (by decide) ?_ | refine GJ.ft (by decide) ?_ | refine GJ.ff (by decide) ?_)
    | (show Br _ _ _; first | refine Br.t (by decide) ?_ | refine Br.f (by decide) ?_)
    | (show GJ _ _ _ _ _ _ _; first | (apply GJ.and; exact rfl; intro hg) | (apply GJ.or; exact rfl; intro hg)))
  refine each_ok ho1 hav (fy := 10) (cap := #[ptr' b, ptr' b3]) (go := fun q => decide ((q.length : Int) ≠ z)) (T := preI (kidsAt s) s.nodes.length (k : Int)) (fun p (w : Unit) => .blk b 3 [.int .i64 (p.length : Int)] :: .blk b5 30 [.slice a1 (allT s).length c1] :: .sl a1 (allT s).length c1 3 1 (kidsV (allT s)) :: .blk b3 3 [.int .i64 z] :: .blk b2 25 (specV s a) :: own) (fun p w => True) ?_ (k + 1) k (by omega) (by omega) [] [] (by simp) () trivial ro1 [] _ ?_
  · rintro p u r2 hT _ _ ro2 G K2 hle2 hk2
    have hpl := congrArg List.length hT
    rw [List.length_append] at hpl
    have hk3 := hk2 () trivial
    rw [show (p ++ [u]).length = p.length + 1 by simp] at hk3
    exact count_ok (by omega) hk3
  rintro _ _
  have hst := (runG_stop (z := z) (preI (kidsAt s) s.nodes.length (k : Int)) []).resolve_right (by rw [preI_eq hav.kidsAt (by omega)]; simp)
  rw [hst]
  generalize (runG (fun q => decide ((q.length : Int) ≠ z)) [] (preI (kidsAt s) s.nodes.length (k : Int))).2 = q
  repeat (first
    | (show _ ∧ _; exact ⟨rfl, rfl, rfl⟩)
    | refine wkT ?_
    | refine Bs.all ?_
    | (show RetOk _ _ _ _ _ _; refine RetOk.of (T := T) (RL.row rfl rfl LdN.hasBlk (by rfl) (RL.tmp rfl (RL.tmp rfl RL.nil))) ?_)
    | (show QOk _ _ _ _ _ _ _; refine QOk.build rfl rfl Nf.auto ?_)
    | (show OpOk _ _ _ _ _ _ _; first | refine opB (fun b => ?_) | refine opA (fun a' c' hc1 hc2 => ?_))
    | (show GJ _ _ _ _ _ _ _; first | refine GJ.t (by decide) ?_ | refine GJ.f (by decide) ?_ | refine GJ.ft (by decide) ?_ | refine GJ.ff (by decide) ?_)
    | (show Br _ _ _; first | refine Br.t (by decide) ?_ | refine Br.f (by decide) ?_)
    | (show GJ _ _ _ _ _ _ _; first | (apply GJ.and; exact rfl; intro hg) | (apply GJ.or; exact rfl; intro hg)))
  refine Br.f (by cases decide ((q.length : Int) = z) <;> simp) ?_
  repeat (first
    | (show _ ∧ _; exact ⟨rfl, rfl, rfl⟩)
    | refine wkT ?_
    | refine Bs.all ?_
    | (show RetOk _ _ _ _ _ _; refine RetOk.of (T := T) (RL.row rfl rfl LdN.hasBlk (by rfl) (RL.tmp rfl (RL.tmp rfl RL.nil))) ?_)
    | (show QOk _ _ _ _ _ _ _; refine QOk.build rfl rfl Nf.auto ?_)
    | (show OpOk _ _ _ _ _ _ _; first | refine opB (fun b => ?_) | refine opA (fun a' c' hc1 hc2 => ?_))
    | (show GJ _ _ _ _ _ _ _; first | refine GJ.t (by decide) ?_ | refine GJ.f (by decide) ?_ | refine GJ.ft (by decide) ?_ | refine GJ.ff (by decide) ?_)
    | (show Br _ _ _; first | refine Br.t (by decide) ?_ | refine Br.f (by decide) ?_)
    | (show GJ _ _ _ _ _ _ _; first | (apply GJ.and; exact rfl; intro hg) | (apply GJ.or; exact rfl; intro hg)))
  refine CallOk.perm (Take.perm (c := .sl a1 _ _ _ _ _) Take.auto) ?_
  refine sortI_ok (l := allT s) (by omega) ?_
  rw [allT_sorted hc, hlen]
  have hrl : (rngI s.nodes.length).length = s.nodes.length := by simp [rngI]
  repeat (first
    | (show _ ∧ _; exact ⟨rfl, rfl, rfl⟩)
    | refine wkT ?_
    | refine Bs.all ?_
    | (show RetOk _ _ _ _ _ _; refine RetOk.of (T := T) (RL.row rfl rfl LdN.hasBlk (by rfl) (RL.tmp rfl (RL.tmp rfl RL.nil))) ?_)
    | (show QOk _ _ _ _ _ _ _; refine QOk.build rfl rfl Nf.auto ?_)
    | (show OpOk _ _ _ _ _ _ _; first | refine opB (fun b => ?_) | refine opA (fun a' c' hc1 hc2 => ?_))
    | (show GJ _ _ _ _ _ _ _; first | refine GJ.t (by decide) ?_ | refine GJ.f (by decide) ?_ | refine GJ.ft (by decide) ?_ | refine GJ.ff (by decide) ?_)
    | (show Br _ _ _; first | refine Br.t (by decide) ?_ | refine Br.f (by decide) ?_)
    | (show GJ _ _ _ _ _ _ _; first | (apply GJ.and; exact rfl; intro hg) | (apply GJ.or; exact rfl; intro hg)))
  refine LoopOk.at (ι := Nat) Keep.auto (fun j => [(67, .int .i64 (j : Int))]) (fun j => .sl a1 s.nodes.length c1 3 1 ((rngI s.nodes.length).map (Value.int .i64)) :: .blk b 3 [.int .i64 (q.length : Int)] :: .blk b5 30 [.slice a1 s.nodes.length c1] :: .blk b3 3 [.int .i64 z] :: .blk b2 25 (specV s a) :: own) (fun j => j ≤ s.nodes.length) (fun j => s.nodes.length - j) 0 ?_ Sub.auto Sup.auto ?_
  · exact Nat.zero_le _
  rintro j i1
  dsimp only [List.cons_append, List.nil_append] at i1 ⊢
  repeat (first
    | (show _ ∧ _; exact ⟨rfl, rfl, rfl⟩)
    | refine wkT ?_
    | refine Bs.all ?_
    | (show RetOk _ _ _ _ _ _; refine RetOk.of (T := T) (RL.row rfl rfl LdN.hasBlk (by rfl) (RL.tmp rfl (RL.tmp rfl RL.nil))) ?_)
    | (show QOk _ _ _ _ _ _ _; refine QOk.build rfl rfl Nf.auto ?_)
    | (show OpOk _ _ _ _ _ _ _; first | refine opB (fun b => ?_) | refine opA (fun a' c' hc1 hc2 => ?_))
    | (show GJ _ _ _ _ _ _ _; first | refine GJ.t (by decide) ?_ | refine GJ.f (by decide) ?_ | refine GJ.ft (by decide) ?_ | refine GJ.ff (by decide) ?_)
    | (show Br _ _ _; first | refine Br.t (by decide) ?_ | refine Br.f (by decide) ?_)
    | (show GJ _ _ _ _ _ _ _; first | (apply GJ.and; exact rfl; intro hg) | (apply GJ.or; exact rfl; intro hg)))
  refine Br.cases (fun hlt => ?_) (fun hlt => ?_)
  · have hat : (rngI s.nodes.length)[((j : Nat) : Int).toNat]! = (j : Int) := by
      have : j < s.nodes.length := by omega
      rw [Int.toNat_natCast]
      simp [rngI, this]
    repeat (first
      | (show _ ∧ _; exact ⟨rfl, rfl, rfl⟩)
      | refine wkT ?_
      | refine Bs.all ?_
      | (show RetOk _ _ _ _ _ _; refine RetOk.of (T := T) (RL.row rfl rfl LdN.hasBlk (by rfl) (RL.tmp rfl (RL.tmp rfl RL.nil))) ?_)
      | (show QOk _ _ _ _ _ _ _; refine QOk.build rfl rfl Nf.auto ?_)
      | (show OpOk _ _ _ _ _ _ _; first | refine opB (fun b => ?_) | refine opA (fun a' c' hc1 hc2 => ?_))
      | (show GJ _ _ _ _ _ _ _; first | refine GJ.t (by decide) ?_ | refine GJ.f (by decide) ?_ | refine GJ.ft (by decide) ?_ | refine GJ.ff (by decide) ?_)
      | (show Br _ _ _; first | refine Br.t (by decide) ?_ | refine Br.f (by decide) ?_)
      | (show GJ _ _ _ _ _ _ _; first | (apply GJ.and; exact rfl; intro hg) | (apply GJ.or; exact rfl; intro hg)))
    refine Wk.id ⟨j + 1, ⟨rfl, ?_⟩, ?_, Sub.auto, Sup.auto⟩
    all_goals try dsimp only
    · omega
    · omega
  repeat (first
    | (show _ ∧ _; exact ⟨rfl, rfl, rfl⟩)
    | refine wkT ?_
    | refine Bs.all ?_
    | (show RetOk _ _ _ _ _ _; refine RetOk.of (T := T) (RL.row rfl rfl LdN.hasBlk (by rfl) (RL.tmp rfl (RL.tmp rfl RL.nil))) ?_)
    | (show QOk _ _ _ _ _ _ _; refine QOk.build rfl rfl Nf.auto ?_)
    | (show OpOk _ _ _ _ _ _ _; first | refine opB (fun b => ?_) | refine opA (fun a' c' hc1 hc2 => ?_))
    | (show GJ _ _ _ _ _ _ _; first | refine GJ.t (by decide) ?_ | refine GJ.f (by decide) ?_ | refine GJ.ft (by decide) ?_ | refine GJ.ff (by decide) ?_)
    | (show Br _ _ _; first | refine Br.t (by decide) ?_ | refine Br.f (by decide) ?_)
    | (show GJ _ _ _ _ _ _ _; first | (apply GJ.and; exact rfl; intro hg) | (apply GJ.or; exact rfl; intro hg)))
  rw [decide_eq_true rfl]
  exact Wk.id (hk _ _)
end
end Go.Proofs.Ytniofdklhlbphaa
