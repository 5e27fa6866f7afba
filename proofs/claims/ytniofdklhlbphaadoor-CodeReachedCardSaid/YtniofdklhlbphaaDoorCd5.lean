/- Contracts of the laws of code: right. -/
import Derived.Test.YtniofdklhlbphaaDoorCd3
import Derived.Test.YtniofdklhlbphaaDoorCd4
namespace Go.Proofs.YtniofdklhlbphaaDoor
open Go Go.E
set_option linter.unusedVariables false
set_option linter.unusedSimpArgs false
set_option maxRecDepth 10000
theorem kindD_at {k : Int} {n : Nat} (h : k = ((n + 1 : Nat) : Int)) (hn : n < 20) : kindD k = kindsB[n]! := by
  subst h
  unfold kindD
  rw [if_neg (by omega), show (((n + 1 : Nat) : Int) - 1).toNat = n by omega, List.getElem!_eq_getElem?_getD]
  rfl
theorem kindD_no {k : Int} (h : k < 1 ∨ k > 20) : kindD k = [] := by unfold kindD; rw [if_pos h]
section
variable {ro : Ro} {own r : Chs} {K : Value → Ro → Chs → Prop} {g : Chunk → Chs}
theorem toC_ok {p : ProgD} {a : ProgA} {i : Int} {b : Nat} {f : Chunk → Chs} [hb : HasBlk own b 33 (progV p a) f] (hk : K (.bool (toB p i)) ro own) : CallOk Tryd.prog 73 (capA [.int .i64 i] #[ptr' b]) ro own K := by
  refine CallOk.intro (args := [_, _]) (rs := [_]) T_ok Tryd.func73 Tryd.call73 rfl rfl (by kernel_rfl) rfl rfl ?_
  repeat (first
    | (show _ ∧ _; exact ⟨rfl, rfl, rfl⟩)
    | refine wkT ?_
    | (show OpOk _ _ _ _ _ _ _; first | refine opB (fun b => ?_) | refine opA (fun a' c' hc1 hc2 => ?_))
    | (show GJ _ _ _ _ _ _ _; first | (apply GJ.and; exact rfl; intro hg) | (apply GJ.or; exact rfl; intro hg)))
  exact Wk.outS Sup.auto (.refl _) hk
set_option maxHeartbeats 8000000 in
theorem lright_ok {p : ProgD} {a : ProgA} {s : StepD} {x : StepA} (hs : StepOk ro s x) (hk : K (.bool (rightD p s)) ro own) : CallOk Tryd.prog 46 #[.agg (progV p a).toArray, .agg (stepV s x).toArray] ro own K := by
  have hw := hs.ways
  have hle := hw.le
  have hm := hw.max
  unfold maxLen at hm
  have hbl := hs.inn.bytes
  have hF : ∀ q : Bool, rightD p s = q → K (.bool q) ro own := fun q hq => by rw [← hq]; exact hk
  refine CallOk.intro (args := [_, _]) (rs := [_]) T_ok Tryd.func46 Tryd.call46 rfl rfl (by kernel_rfl) rfl rfl ?_
  repeat (first
    | refine SeqOk.pass ?_
    | (show _ ∧ _; exact ⟨rfl, rfl, rfl⟩)
    | refine wkT ?_
    | refine Bs.all ?_
    | (show RetOk _ _ _ _ _ _; refine RetOk.of (T := T) (RL.row rfl rfl LdN.hasBlk (by rfl) (RL.tmp rfl (RL.tmp rfl RL.nil))) ?_)
    | (show QOk _ _ _ _ _ _ _; refine QOk.build rfl rfl Nf.auto ?_)
    | (show OpOk _ _ _ _ _ _ _; first | refine opB (fun b => ?_) | refine opA (fun a' c' hc1 hc2 => ?_))
    | (show GJ _ _ _ _ _ _ _; first | refine GJ.t (by decide) ?_ | refine GJ.f (by decide) ?_ | refine GJ.ft (by decide) ?_ | refine GJ.ff (by decide) ?_)
    | (show Br _ _ _; first | refine Br.t (by decide) ?_ | refine Br.f (by decide) ?_)
    | (show GJ _ _ _ _ _ _ _; first | (apply GJ.and; exact rfl; intro hg) | (apply GJ.or; exact rfl; intro hg)))
  rename_i b2
  refine LoopOk.at (ι := Nat) Keep.auto (fun i => [(19, .int .i64 (i : Int)), (6, .bool ((s.ways.take i).all (fun w => toB p w.to) && decide ((s.ways.length : Int) ≤ 255)))]) (fun i => .blk b 42 (stepV s x) :: .blk b2 33 (progV p a) :: own) (fun i => i ≤ s.ways.length) (fun i => s.ways.length - i) 0 ?_ Sub.auto Sup.auto ?_
  · exact Nat.zero_le _
  rintro i i1
  dsimp only [List.cons_append, List.nil_append] at i1 ⊢
  repeat (first
    | refine SeqOk.pass ?_
    | (show _ ∧ _; exact ⟨rfl, rfl, rfl⟩)
    | refine wkT ?_
    | refine Bs.all ?_
    | (show RetOk _ _ _ _ _ _; refine RetOk.of (T := T) (RL.row rfl rfl LdN.hasBlk (by rfl) (RL.tmp rfl (RL.tmp rfl RL.nil))) ?_)
    | (show QOk _ _ _ _ _ _ _; refine QOk.build rfl rfl Nf.auto ?_)
    | (show OpOk _ _ _ _ _ _ _; first | refine opB (fun b => ?_) | refine opA (fun a' c' hc1 hc2 => ?_))
    | (show GJ _ _ _ _ _ _ _; first | refine GJ.t (by decide) ?_ | refine GJ.f (by decide) ?_ | refine GJ.ft (by decide) ?_ | refine GJ.ff (by decide) ?_)
    | (show Br _ _ _; first | refine Br.t (by decide) ?_ | refine Br.f (by decide) ?_)
    | (show GJ _ _ _ _ _ _ _; first | (apply GJ.and; exact rfl; intro hg) | (apply GJ.or; exact rfl; intro hg)))
  refine Br.cases (fun hg => ?_) (fun hg => ?_)
  · obtain ⟨w, hwi⟩ : ∃ w, s.ways[i]? = some w := ⟨_, List.getElem?_eq_getElem (by omega)⟩
    have hd := waysV_drop _ _ _ hwi
    have htk : (s.ways.take (i + 1)).all (fun w => toB p w.to) = ((s.ways.take i).all (fun w => toB p w.to) && toB p w.to) := by rw [List.take_add_one, hwi, List.all_append]; simp
    repeat (first
      | refine SeqOk.pass ?_
      | (show _ ∧ _; exact ⟨rfl, rfl, rfl⟩)
      | refine wkT ?_
      | refine Bs.all ?_
      | (show RetOk _ _ _ _ _ _; refine RetOk.of (T := T) (RL.row rfl rfl LdN.hasBlk (by rfl) (RL.tmp rfl (RL.tmp rfl RL.nil))) ?_)
      | (show QOk _ _ _ _ _ _ _; refine QOk.build rfl rfl Nf.auto ?_)
      | (show OpOk _ _ _ _ _ _ _; first | refine opB (fun b => ?_) | refine opA (fun a' c' hc1 hc2 => ?_))
      | (show GJ _ _ _ _ _ _ _; first | refine GJ.t (by decide) ?_ | refine GJ.f (by decide) ?_ | refine GJ.ft (by decide) ?_ | refine GJ.ff (by decide) ?_)
      | (show Br _ _ _; first | refine Br.t (by decide) ?_ | refine Br.f (by decide) ?_)
      | (show GJ _ _ _ _ _ _ _; first | (apply GJ.and; exact rfl; intro hg) | (apply GJ.or; exact rfl; intro hg)))
    rw [Int.toNat_natCast]
    refine OpOk.loadRow rfl rfl (LdN.at hw hd) rfl ?_
    cases hp : ((s.ways.take i).all (fun w => toB p w.to) && decide ((s.ways.length : Int) ≤ 255)) with
    | false =>
      repeat (first
        | refine SeqOk.pass ?_
        | (show _ ∧ _; exact ⟨rfl, rfl, rfl⟩)
        | refine wkT ?_
        | refine Bs.all ?_
        | (show RetOk _ _ _ _ _ _; refine RetOk.of (T := T) (RL.row rfl rfl LdN.hasBlk (by rfl) (RL.tmp rfl (RL.tmp rfl RL.nil))) ?_)
        | (show QOk _ _ _ _ _ _ _; refine QOk.build rfl rfl Nf.auto ?_)
        | (show OpOk _ _ _ _ _ _ _; first | refine opB (fun b => ?_) | refine opA (fun a' c' hc1 hc2 => ?_))
        | (show GJ _ _ _ _ _ _ _; first | refine GJ.t (by decide) ?_ | refine GJ.f (by decide) ?_ | refine GJ.ft (by decide) ?_ | refine GJ.ff (by decide) ?_)
        | (show Br _ _ _; first | refine Br.t (by decide) ?_ | refine Br.f (by decide) ?_)
        | (show GJ _ _ _ _ _ _ _; first | (apply GJ.and; exact rfl; intro hg) | (apply GJ.or; exact rfl; intro hg)))
      refine Wk.id ⟨i + 1, ⟨rfl, ?_⟩, ?_, ?_, Sup.auto⟩
      · omega
      · omega
      · rw [htk, Bool.and_right_comm, hp, Bool.false_and]
        exact (by repeat (first | exact trivial | refine Sub.cons rfl ?_))
    | true =>
      repeat (first
        | refine SeqOk.pass ?_
        | (show _ ∧ _; exact ⟨rfl, rfl, rfl⟩)
        | refine wkT ?_
        | refine Bs.all ?_
        | (show RetOk _ _ _ _ _ _; refine RetOk.of (T := T) (RL.row rfl rfl LdN.hasBlk (by rfl) (RL.tmp rfl (RL.tmp rfl RL.nil))) ?_)
        | (show QOk _ _ _ _ _ _ _; refine QOk.build rfl rfl Nf.auto ?_)
        | (show OpOk _ _ _ _ _ _ _; first | refine opB (fun b => ?_) | refine opA (fun a' c' hc1 hc2 => ?_))
        | (show GJ _ _ _ _ _ _ _; first | refine GJ.t (by decide) ?_ | refine GJ.f (by decide) ?_ | refine GJ.ft (by decide) ?_ | refine GJ.ff (by decide) ?_)
        | (show Br _ _ _; first | refine Br.t (by decide) ?_ | refine Br.f (by decide) ?_)
        | (show GJ _ _ _ _ _ _ _; first | (apply GJ.and; exact rfl; intro hg) | (apply GJ.or; exact rfl; intro hg)))
      refine toC_ok ?_
      repeat (first
        | refine SeqOk.pass ?_
        | (show _ ∧ _; exact ⟨rfl, rfl, rfl⟩)
        | refine wkT ?_
        | refine Bs.all ?_
        | (show RetOk _ _ _ _ _ _; refine RetOk.of (T := T) (RL.row rfl rfl LdN.hasBlk (by rfl) (RL.tmp rfl (RL.tmp rfl RL.nil))) ?_)
        | (show QOk _ _ _ _ _ _ _; refine QOk.build rfl rfl Nf.auto ?_)
        | (show OpOk _ _ _ _ _ _ _; first | refine opB (fun b => ?_) | refine opA (fun a' c' hc1 hc2 => ?_))
        | (show GJ _ _ _ _ _ _ _; first | refine GJ.t (by decide) ?_ | refine GJ.f (by decide) ?_ | refine GJ.ft (by decide) ?_ | refine GJ.ff (by decide) ?_)
        | (show Br _ _ _; first | refine Br.t (by decide) ?_ | refine Br.f (by decide) ?_)
        | (show GJ _ _ _ _ _ _ _; first | (apply GJ.and; exact rfl; intro hg) | (apply GJ.or; exact rfl; intro hg)))
      refine Wk.id ⟨i + 1, ⟨rfl, ?_⟩, ?_, ?_, Sup.auto⟩
      · omega
      · omega
      · rw [htk, Bool.and_right_comm, hp, Bool.true_and]
        exact (by repeat (first | exact trivial | refine Sub.cons rfl ?_))
  obtain rfl : i = s.ways.length := by omega
  have hwb : ((s.ways.take s.ways.length).all (fun w => toB p w.to) && decide ((s.ways.length : Int) ≤ 255)) = waysB p s := by
    rw [List.take_length]
    unfold waysB
    congr 1
    rw [decide_eq_decide]; omega
  rw [hwb]
  repeat (first
    | refine SeqOk.pass ?_
    | (show _ ∧ _; exact ⟨rfl, rfl, rfl⟩)
    | refine wkT ?_
    | refine Bs.all ?_
    | (show RetOk _ _ _ _ _ _; refine RetOk.of (T := T) (RL.row rfl rfl LdN.hasBlk (by rfl) (RL.tmp rfl (RL.tmp rfl RL.nil))) ?_)
    | (show QOk _ _ _ _ _ _ _; refine QOk.build rfl rfl Nf.auto ?_)
    | (show OpOk _ _ _ _ _ _ _; first | refine opB (fun b => ?_) | refine opA (fun a' c' hc1 hc2 => ?_))
    | (show GJ _ _ _ _ _ _ _; first | refine GJ.t (by decide) ?_ | refine GJ.f (by decide) ?_ | refine GJ.ft (by decide) ?_ | refine GJ.ff (by decide) ?_)
    | (show Br _ _ _; first | refine Br.t (by decide) ?_ | refine Br.f (by decide) ?_)
    | (show GJ _ _ _ _ _ _ _; first | (apply GJ.and; exact rfl; intro hg) | (apply GJ.or; exact rfl; intro hg)))
  refine kname_ok ?_
  by_cases h1 : s.kind = 1
  · rw [kindD_at (n := 0) h1 (by omega), show kindsB[0]! = [111, 112, 101, 110] from rfl]
    repeat (first
      | refine SeqOk.pass ?_
      | (show _ ∧ _; exact ⟨rfl, rfl, rfl⟩)
      | refine wkT ?_
      | refine Bs.all ?_
      | (show RetOk _ _ _ _ _ _; refine RetOk.of (T := T) (RL.row rfl rfl LdN.hasBlk (by rfl) (RL.tmp rfl (RL.tmp rfl RL.nil))) ?_)
      | (show QOk _ _ _ _ _ _ _; refine QOk.build rfl rfl Nf.auto ?_)
      | (show OpOk _ _ _ _ _ _ _; first | refine opB (fun b => ?_) | refine opA (fun a' c' hc1 hc2 => ?_))
      | (show GJ _ _ _ _ _ _ _; first | refine GJ.t (by decide) ?_ | refine GJ.f (by decide) ?_ | refine GJ.ft (by decide) ?_ | refine GJ.ff (by decide) ?_)
      | (show Br _ _ _; first | refine Br.t (by decide) ?_ | refine Br.f (by decide) ?_)
      | (show GJ _ _ _ _ _ _ _; first | (apply GJ.and; exact rfl; intro hg) | (apply GJ.or; exact rfl; intro hg)))
    exact Wk.outS Sup.auto (.refl _) (hF _ (by rw [Bool.eq_iff_iff]; simp [rightD, h1, slotB, toB] <;> omega))
  by_cases h2 : s.kind = 2
  · rw [kindD_at (n := 1) h2 (by omega), show kindsB[1]! = [99, 108, 111, 115, 101] from rfl]
    repeat (first
      | refine SeqOk.pass ?_
      | (show _ ∧ _; exact ⟨rfl, rfl, rfl⟩)
      | refine wkT ?_
      | refine Bs.all ?_
      | (show RetOk _ _ _ _ _ _; refine RetOk.of (T := T) (RL.row rfl rfl LdN.hasBlk (by rfl) (RL.tmp rfl (RL.tmp rfl RL.nil))) ?_)
      | (show QOk _ _ _ _ _ _ _; refine QOk.build rfl rfl Nf.auto ?_)
      | (show OpOk _ _ _ _ _ _ _; first | refine opB (fun b => ?_) | refine opA (fun a' c' hc1 hc2 => ?_))
      | (show GJ _ _ _ _ _ _ _; first | refine GJ.t (by decide) ?_ | refine GJ.f (by decide) ?_ | refine GJ.ft (by decide) ?_ | refine GJ.ff (by decide) ?_)
      | (show Br _ _ _; first | refine Br.t (by decide) ?_ | refine Br.f (by decide) ?_)
      | (show GJ _ _ _ _ _ _ _; first | (apply GJ.and; exact rfl; intro hg) | (apply GJ.or; exact rfl; intro hg)))
    exact Wk.outS Sup.auto (.refl _) (hF _ (by rw [Bool.eq_iff_iff]; simp [rightD, h2, slotB, toB] <;> omega))
  by_cases h3 : s.kind = 3
  · rw [kindD_at (n := 2) h3 (by omega), show kindsB[2]! = [102, 105, 120, 101, 100] from rfl]
    repeat (first
      | refine SeqOk.pass ?_
      | (show _ ∧ _; exact ⟨rfl, rfl, rfl⟩)
      | refine wkT ?_
      | refine Bs.all ?_
      | (show RetOk _ _ _ _ _ _; refine RetOk.of (T := T) (RL.row rfl rfl LdN.hasBlk (by rfl) (RL.tmp rfl (RL.tmp rfl RL.nil))) ?_)
      | (show QOk _ _ _ _ _ _ _; refine QOk.build rfl rfl Nf.auto ?_)
      | (show OpOk _ _ _ _ _ _ _; first | refine opB (fun b => ?_) | refine opA (fun a' c' hc1 hc2 => ?_))
      | (show GJ _ _ _ _ _ _ _; first | refine GJ.t (by decide) ?_ | refine GJ.f (by decide) ?_ | refine GJ.ft (by decide) ?_ | refine GJ.ff (by decide) ?_)
      | (show Br _ _ _; first | refine Br.t (by decide) ?_ | refine Br.f (by decide) ?_)
      | (show GJ _ _ _ _ _ _ _; first | (apply GJ.and; exact rfl; intro hg) | (apply GJ.or; exact rfl; intro hg)))
    exact Wk.outS Sup.auto (.refl _) (hF _ (by rw [Bool.eq_iff_iff]; simp [rightD, h3, slotB, toB] <;> omega))
  by_cases h4 : s.kind = 4
  · rw [kindD_at (n := 3) h4 (by omega), show kindsB[3]! = [118, 97, 114, 105, 110, 116] from rfl]
    repeat (first
      | refine SeqOk.pass ?_
      | (show _ ∧ _; exact ⟨rfl, rfl, rfl⟩)
      | refine wkT ?_
      | refine Bs.all ?_
      | (show RetOk _ _ _ _ _ _; refine RetOk.of (T := T) (RL.row rfl rfl LdN.hasBlk (by rfl) (RL.tmp rfl (RL.tmp rfl RL.nil))) ?_)
      | (show QOk _ _ _ _ _ _ _; refine QOk.build rfl rfl Nf.auto ?_)
      | (show OpOk _ _ _ _ _ _ _; first | refine opB (fun b => ?_) | refine opA (fun a' c' hc1 hc2 => ?_))
      | (show GJ _ _ _ _ _ _ _; first | refine GJ.t (by decide) ?_ | refine GJ.f (by decide) ?_ | refine GJ.ft (by decide) ?_ | refine GJ.ff (by decide) ?_)
      | (show Br _ _ _; first | refine Br.t (by decide) ?_ | refine Br.f (by decide) ?_)
      | (show GJ _ _ _ _ _ _ _; first | (apply GJ.and; exact rfl; intro hg) | (apply GJ.or; exact rfl; intro hg)))
    exact Wk.outS Sup.auto (.refl _) (hF _ (by rw [Bool.eq_iff_iff]; simp [rightD, h4, slotB, toB] <;> omega))
  by_cases h5 : s.kind = 5
  · rw [kindD_at (n := 4) h5 (by omega), show kindsB[4]! = [116, 111, 107, 101, 110] from rfl]
    repeat (first
      | refine SeqOk.pass ?_
      | (show _ ∧ _; exact ⟨rfl, rfl, rfl⟩)
      | refine wkT ?_
      | refine Bs.all ?_
      | (show RetOk _ _ _ _ _ _; refine RetOk.of (T := T) (RL.row rfl rfl LdN.hasBlk (by rfl) (RL.tmp rfl (RL.tmp rfl RL.nil))) ?_)
      | (show QOk _ _ _ _ _ _ _; refine QOk.build rfl rfl Nf.auto ?_)
      | (show OpOk _ _ _ _ _ _ _; first | refine opB (fun b => ?_) | refine opA (fun a' c' hc1 hc2 => ?_))
      | (show GJ _ _ _ _ _ _ _; first | refine GJ.t (by decide) ?_ | refine GJ.f (by decide) ?_ | refine GJ.ft (by decide) ?_ | refine GJ.ff (by decide) ?_)
      | (show Br _ _ _; first | refine Br.t (by decide) ?_ | refine Br.f (by decide) ?_)
      | (show GJ _ _ _ _ _ _ _; first | (apply GJ.and; exact rfl; intro hg) | (apply GJ.or; exact rfl; intro hg)))
    exact Wk.outS Sup.auto (.refl _) (hF _ (by rw [Bool.eq_iff_iff]; simp [rightD, h5, slotB, toB] <;> omega))
  by_cases h6 : s.kind = 6
  · rw [kindD_at (n := 5) h6 (by omega), show kindsB[5]! = [98, 108, 111, 98] from rfl]
    repeat (first
      | refine SeqOk.pass ?_
      | (show _ ∧ _; exact ⟨rfl, rfl, rfl⟩)
      | refine wkT ?_
      | refine Bs.all ?_
      | (show RetOk _ _ _ _ _ _; refine RetOk.of (T := T) (RL.row rfl rfl LdN.hasBlk (by rfl) (RL.tmp rfl (RL.tmp rfl RL.nil))) ?_)
      | (show QOk _ _ _ _ _ _ _; refine QOk.build rfl rfl Nf.auto ?_)
      | (show OpOk _ _ _ _ _ _ _; first | refine opB (fun b => ?_) | refine opA (fun a' c' hc1 hc2 => ?_))
      | (show GJ _ _ _ _ _ _ _; first | refine GJ.t (by decide) ?_ | refine GJ.f (by decide) ?_ | refine GJ.ft (by decide) ?_ | refine GJ.ff (by decide) ?_)
      | (show Br _ _ _; first | refine Br.t (by decide) ?_ | refine Br.f (by decide) ?_)
      | (show GJ _ _ _ _ _ _ _; first | (apply GJ.and; exact rfl; intro hg) | (apply GJ.or; exact rfl; intro hg)))
    exact Wk.outS Sup.auto (.refl _) (hF _ (by rw [Bool.eq_iff_iff]; simp [rightD, h6, slotB, toB] <;> omega))
  by_cases h7 : s.kind = 7
  · rw [kindD_at (n := 6) h7 (by omega), show kindsB[6]! = [101, 110, 116, 101, 114] from rfl]
    repeat (first
      | refine SeqOk.pass ?_
      | (show _ ∧ _; exact ⟨rfl, rfl, rfl⟩)
      | refine wkT ?_
      | refine Bs.all ?_
      | (show RetOk _ _ _ _ _ _; refine RetOk.of (T := T) (RL.row rfl rfl LdN.hasBlk (by rfl) (RL.tmp rfl (RL.tmp rfl RL.nil))) ?_)
      | (show QOk _ _ _ _ _ _ _; refine QOk.build rfl rfl Nf.auto ?_)
      | (show OpOk _ _ _ _ _ _ _; first | refine opB (fun b => ?_) | refine opA (fun a' c' hc1 hc2 => ?_))
      | (show GJ _ _ _ _ _ _ _; first | refine GJ.t (by decide) ?_ | refine GJ.f (by decide) ?_ | refine GJ.ft (by decide) ?_ | refine GJ.ff (by decide) ?_)
      | (show Br _ _ _; first | refine Br.t (by decide) ?_ | refine Br.f (by decide) ?_)
      | (show GJ _ _ _ _ _ _ _; first | (apply GJ.and; exact rfl; intro hg) | (apply GJ.or; exact rfl; intro hg)))
    exact Wk.outS Sup.auto (.refl _) (hF _ (by rw [Bool.eq_iff_iff]; simp [rightD, h7, slotB, toB] <;> omega))
  by_cases h8 : s.kind = 8
  · rw [kindD_at (n := 7) h8 (by omega), show kindsB[7]! = [108, 101, 97, 118, 101] from rfl]
    repeat (first
      | refine SeqOk.pass ?_
      | (show _ ∧ _; exact ⟨rfl, rfl, rfl⟩)
      | refine wkT ?_
      | refine Bs.all ?_
      | (show RetOk _ _ _ _ _ _; refine RetOk.of (T := T) (RL.row rfl rfl LdN.hasBlk (by rfl) (RL.tmp rfl (RL.tmp rfl RL.nil))) ?_)
      | (show QOk _ _ _ _ _ _ _; refine QOk.build rfl rfl Nf.auto ?_)
      | (show OpOk _ _ _ _ _ _ _; first | refine opB (fun b => ?_) | refine opA (fun a' c' hc1 hc2 => ?_))
      | (show GJ _ _ _ _ _ _ _; first | refine GJ.t (by decide) ?_ | refine GJ.f (by decide) ?_ | refine GJ.ft (by decide) ?_ | refine GJ.ff (by decide) ?_)
      | (show Br _ _ _; first | refine Br.t (by decide) ?_ | refine Br.f (by decide) ?_)
      | (show GJ _ _ _ _ _ _ _; first | (apply GJ.and; exact rfl; intro hg) | (apply GJ.or; exact rfl; intro hg)))
    exact Wk.outS Sup.auto (.refl _) (hF _ (by rw [Bool.eq_iff_iff]; simp [rightD, h8, slotB, toB] <;> omega))
  by_cases h9 : s.kind = 9
  · rw [kindD_at (n := 8) h9 (by omega), show kindsB[8]! = [99, 111, 117, 110, 116] from rfl]
    repeat (first
      | refine SeqOk.pass ?_
      | (show _ ∧ _; exact ⟨rfl, rfl, rfl⟩)
      | refine wkT ?_
      | refine Bs.all ?_
      | (show RetOk _ _ _ _ _ _; refine RetOk.of (T := T) (RL.row rfl rfl LdN.hasBlk (by rfl) (RL.tmp rfl (RL.tmp rfl RL.nil))) ?_)
      | (show QOk _ _ _ _ _ _ _; refine QOk.build rfl rfl Nf.auto ?_)
      | (show OpOk _ _ _ _ _ _ _; first | refine opB (fun b => ?_) | refine opA (fun a' c' hc1 hc2 => ?_))
      | (show GJ _ _ _ _ _ _ _; first | refine GJ.t (by decide) ?_ | refine GJ.f (by decide) ?_ | refine GJ.ft (by decide) ?_ | refine GJ.ff (by decide) ?_)
      | (show Br _ _ _; first | refine Br.t (by decide) ?_ | refine Br.f (by decide) ?_)
      | (show GJ _ _ _ _ _ _ _; first | (apply GJ.and; exact rfl; intro hg) | (apply GJ.or; exact rfl; intro hg)))
    exact Wk.outS Sup.auto (.refl _) (hF _ (by rw [Bool.eq_iff_iff]; simp [rightD, h9, slotB, toB] <;> omega))
  by_cases h10 : s.kind = 10
  · rw [kindD_at (n := 9) h10 (by omega), show kindsB[9]! = [110, 101, 120, 116] from rfl]
    repeat (first
      | refine SeqOk.pass ?_
      | (show _ ∧ _; exact ⟨rfl, rfl, rfl⟩)
      | refine wkT ?_
      | refine Bs.all ?_
      | (show RetOk _ _ _ _ _ _; refine RetOk.of (T := T) (RL.row rfl rfl LdN.hasBlk (by rfl) (RL.tmp rfl (RL.tmp rfl RL.nil))) ?_)
      | (show QOk _ _ _ _ _ _ _; refine QOk.build rfl rfl Nf.auto ?_)
      | (show OpOk _ _ _ _ _ _ _; first | refine opB (fun b => ?_) | refine opA (fun a' c' hc1 hc2 => ?_))
      | (show GJ _ _ _ _ _ _ _; first | refine GJ.t (by decide) ?_ | refine GJ.f (by decide) ?_ | refine GJ.ft (by decide) ?_ | refine GJ.ff (by decide) ?_)
      | (show Br _ _ _; first | refine Br.t (by decide) ?_ | refine Br.f (by decide) ?_)
      | (show GJ _ _ _ _ _ _ _; first | (apply GJ.and; exact rfl; intro hg) | (apply GJ.or; exact rfl; intro hg)))
    refine toC_ok ?_
    repeat (first
      | refine SeqOk.pass ?_
      | (show _ ∧ _; exact ⟨rfl, rfl, rfl⟩)
      | refine wkT ?_
      | refine Bs.all ?_
      | (show RetOk _ _ _ _ _ _; refine RetOk.of (T := T) (RL.row rfl rfl LdN.hasBlk (by rfl) (RL.tmp rfl (RL.tmp rfl RL.nil))) ?_)
      | (show QOk _ _ _ _ _ _ _; refine QOk.build rfl rfl Nf.auto ?_)
      | (show OpOk _ _ _ _ _ _ _; first | refine opB (fun b => ?_) | refine opA (fun a' c' hc1 hc2 => ?_))
      | (show GJ _ _ _ _ _ _ _; first | refine GJ.t (by decide) ?_ | refine GJ.f (by decide) ?_ | refine GJ.ft (by decide) ?_ | refine GJ.ff (by decide) ?_)
      | (show Br _ _ _; first | refine Br.t (by decide) ?_ | refine Br.f (by decide) ?_)
      | (show GJ _ _ _ _ _ _ _; first | (apply GJ.and; exact rfl; intro hg) | (apply GJ.or; exact rfl; intro hg)))
    exact Wk.outS Sup.auto (.refl _) (hF _ (by rw [Bool.eq_iff_iff]; simp [rightD, h10, slotB, toB] <;> omega))
  by_cases h11 : s.kind = 11
  · rw [kindD_at (n := 10) h11 (by omega), show kindsB[10]! = [106, 117, 109, 112] from rfl]
    repeat (first
      | refine SeqOk.pass ?_
      | (show _ ∧ _; exact ⟨rfl, rfl, rfl⟩)
      | refine wkT ?_
      | refine Bs.all ?_
      | (show RetOk _ _ _ _ _ _; refine RetOk.of (T := T) (RL.row rfl rfl LdN.hasBlk (by rfl) (RL.tmp rfl (RL.tmp rfl RL.nil))) ?_)
      | (show QOk _ _ _ _ _ _ _; refine QOk.build rfl rfl Nf.auto ?_)
      | (show OpOk _ _ _ _ _ _ _; first | refine opB (fun b => ?_) | refine opA (fun a' c' hc1 hc2 => ?_))
      | (show GJ _ _ _ _ _ _ _; first | refine GJ.t (by decide) ?_ | refine GJ.f (by decide) ?_ | refine GJ.ft (by decide) ?_ | refine GJ.ff (by decide) ?_)
      | (show Br _ _ _; first | refine Br.t (by decide) ?_ | refine Br.f (by decide) ?_)
      | (show GJ _ _ _ _ _ _ _; first | (apply GJ.and; exact rfl; intro hg) | (apply GJ.or; exact rfl; intro hg)))
    refine toC_ok ?_
    repeat (first
      | refine SeqOk.pass ?_
      | (show _ ∧ _; exact ⟨rfl, rfl, rfl⟩)
      | refine wkT ?_
      | refine Bs.all ?_
      | (show RetOk _ _ _ _ _ _; refine RetOk.of (T := T) (RL.row rfl rfl LdN.hasBlk (by rfl) (RL.tmp rfl (RL.tmp rfl RL.nil))) ?_)
      | (show QOk _ _ _ _ _ _ _; refine QOk.build rfl rfl Nf.auto ?_)
      | (show OpOk _ _ _ _ _ _ _; first | refine opB (fun b => ?_) | refine opA (fun a' c' hc1 hc2 => ?_))
      | (show GJ _ _ _ _ _ _ _; first | refine GJ.t (by decide) ?_ | refine GJ.f (by decide) ?_ | refine GJ.ft (by decide) ?_ | refine GJ.ff (by decide) ?_)
      | (show Br _ _ _; first | refine Br.t (by decide) ?_ | refine Br.f (by decide) ?_)
      | (show GJ _ _ _ _ _ _ _; first | (apply GJ.and; exact rfl; intro hg) | (apply GJ.or; exact rfl; intro hg)))
    exact Wk.outS Sup.auto (.refl _) (hF _ (by rw [Bool.eq_iff_iff]; simp [rightD, h11, slotB, toB] <;> omega))
  by_cases h12 : s.kind = 12
  · rw [kindD_at (n := 11) h12 (by omega), show kindsB[11]! = [109, 97, 110, 121] from rfl]
    repeat (first
      | refine SeqOk.pass ?_
      | (show _ ∧ _; exact ⟨rfl, rfl, rfl⟩)
      | refine wkT ?_
      | refine Bs.all ?_
      | (show RetOk _ _ _ _ _ _; refine RetOk.of (T := T) (RL.row rfl rfl LdN.hasBlk (by rfl) (RL.tmp rfl (RL.tmp rfl RL.nil))) ?_)
      | (show QOk _ _ _ _ _ _ _; refine QOk.build rfl rfl Nf.auto ?_)
      | (show OpOk _ _ _ _ _ _ _; first | refine opB (fun b => ?_) | refine opA (fun a' c' hc1 hc2 => ?_))
      | (show GJ _ _ _ _ _ _ _; first | refine GJ.t (by decide) ?_ | refine GJ.f (by decide) ?_ | refine GJ.ft (by decide) ?_ | refine GJ.ff (by decide) ?_)
      | (show Br _ _ _; first | refine Br.t (by decide) ?_ | refine Br.f (by decide) ?_)
      | (show GJ _ _ _ _ _ _ _; first | (apply GJ.and; exact rfl; intro hg) | (apply GJ.or; exact rfl; intro hg)))
    refine toC_ok ?_
    repeat (first
      | refine SeqOk.pass ?_
      | (show _ ∧ _; exact ⟨rfl, rfl, rfl⟩)
      | refine wkT ?_
      | refine Bs.all ?_
      | (show RetOk _ _ _ _ _ _; refine RetOk.of (T := T) (RL.row rfl rfl LdN.hasBlk (by rfl) (RL.tmp rfl (RL.tmp rfl RL.nil))) ?_)
      | (show QOk _ _ _ _ _ _ _; refine QOk.build rfl rfl Nf.auto ?_)
      | (show OpOk _ _ _ _ _ _ _; first | refine opB (fun b => ?_) | refine opA (fun a' c' hc1 hc2 => ?_))
      | (show GJ _ _ _ _ _ _ _; first | refine GJ.t (by decide) ?_ | refine GJ.f (by decide) ?_ | refine GJ.ft (by decide) ?_ | refine GJ.ff (by decide) ?_)
      | (show Br _ _ _; first | refine Br.t (by decide) ?_ | refine Br.f (by decide) ?_)
      | (show GJ _ _ _ _ _ _ _; first | (apply GJ.and; exact rfl; intro hg) | (apply GJ.or; exact rfl; intro hg)))
    exact Wk.outS Sup.auto (.refl _) (hF _ (by rw [Bool.eq_iff_iff]; simp [rightD, h12, slotB, toB] <;> omega))
  by_cases h13 : s.kind = 13
  · rw [kindD_at (n := 12) h13 (by omega), show kindsB[12]! = [115, 119, 105, 116, 99, 104] from rfl]
    by_cases c1 : s.a ≥ 0
    · by_cases c2 : s.a < p.slots
      · by_cases c3 : s.b = -1
        · repeat (first
            | refine SeqOk.pass ?_
            | (show _ ∧ _; exact ⟨rfl, rfl, rfl⟩)
            | refine wkT ?_
            | refine Bs.all ?_
            | (show RetOk _ _ _ _ _ _; refine RetOk.of (T := T) (RL.row rfl rfl LdN.hasBlk (by rfl) (RL.tmp rfl (RL.tmp rfl RL.nil))) ?_)
            | (show QOk _ _ _ _ _ _ _; refine QOk.build rfl rfl Nf.auto ?_)
            | (show OpOk _ _ _ _ _ _ _; first | refine opB (fun b => ?_) | refine opA (fun a' c' hc1 hc2 => ?_))
            | (show GJ _ _ _ _ _ _ _; first | refine GJ.t (by decide) ?_ | refine GJ.f (by decide) ?_ | refine GJ.ft (by decide) ?_ | refine GJ.ff (by decide) ?_)
            | (show Br _ _ _; first | refine Br.t (by decide) ?_ | refine Br.f (by decide) ?_)
            | (show GJ _ _ _ _ _ _ _; first | (apply GJ.and; exact rfl; intro hg) | (apply GJ.or; exact rfl; intro hg)))
          exact Wk.outS Sup.auto (.refl _) (hF _ (by simp [rightD, h13, slotB, c1, c2, c3] <;> omega))
        · repeat (first
            | refine SeqOk.pass ?_
            | (show _ ∧ _; exact ⟨rfl, rfl, rfl⟩)
            | refine wkT ?_
            | refine Bs.all ?_
            | (show RetOk _ _ _ _ _ _; refine RetOk.of (T := T) (RL.row rfl rfl LdN.hasBlk (by rfl) (RL.tmp rfl (RL.tmp rfl RL.nil))) ?_)
            | (show QOk _ _ _ _ _ _ _; refine QOk.build rfl rfl Nf.auto ?_)
            | (show OpOk _ _ _ _ _ _ _; first | refine opB (fun b => ?_) | refine opA (fun a' c' hc1 hc2 => ?_))
            | (show GJ _ _ _ _ _ _ _; first | refine GJ.t (by decide) ?_ | refine GJ.f (by decide) ?_ | refine GJ.ft (by decide) ?_ | refine GJ.ff (by decide) ?_)
            | (show Br _ _ _; first | refine Br.t (by decide) ?_ | refine Br.f (by decide) ?_)
            | (show GJ _ _ _ _ _ _ _; first | (apply GJ.and; exact rfl; intro hg) | (apply GJ.or; exact rfl; intro hg)))
          refine toC_ok ?_
          cases c4 : toB p s.b with
          | true =>
            repeat (first
              | refine SeqOk.pass ?_
              | (show _ ∧ _; exact ⟨rfl, rfl, rfl⟩)
              | refine wkT ?_
              | refine Bs.all ?_
              | (show RetOk _ _ _ _ _ _; refine RetOk.of (T := T) (RL.row rfl rfl LdN.hasBlk (by rfl) (RL.tmp rfl (RL.tmp rfl RL.nil))) ?_)
              | (show QOk _ _ _ _ _ _ _; refine QOk.build rfl rfl Nf.auto ?_)
              | (show OpOk _ _ _ _ _ _ _; first | refine opB (fun b => ?_) | refine opA (fun a' c' hc1 hc2 => ?_))
              | (show GJ _ _ _ _ _ _ _; first | refine GJ.t (by decide) ?_ | refine GJ.f (by decide) ?_ | refine GJ.ft (by decide) ?_ | refine GJ.ff (by decide) ?_)
              | (show Br _ _ _; first | refine Br.t (by decide) ?_ | refine Br.f (by decide) ?_)
              | (show GJ _ _ _ _ _ _ _; first | (apply GJ.and; exact rfl; intro hg) | (apply GJ.or; exact rfl; intro hg)))
            exact Wk.outS Sup.auto (.refl _) (hF _ (by simp [rightD, h13, slotB, c1, c2, c3, c4] <;> omega))
          | false =>
            repeat (first
              | refine SeqOk.pass ?_
              | (show _ ∧ _; exact ⟨rfl, rfl, rfl⟩)
              | refine wkT ?_
              | refine Bs.all ?_
              | (show RetOk _ _ _ _ _ _; refine RetOk.of (T := T) (RL.row rfl rfl LdN.hasBlk (by rfl) (RL.tmp rfl (RL.tmp rfl RL.nil))) ?_)
              | (show QOk _ _ _ _ _ _ _; refine QOk.build rfl rfl Nf.auto ?_)
              | (show OpOk _ _ _ _ _ _ _; first | refine opB (fun b => ?_) | refine opA (fun a' c' hc1 hc2 => ?_))
              | (show GJ _ _ _ _ _ _ _; first | refine GJ.t (by decide) ?_ | refine GJ.f (by decide) ?_ | refine GJ.ft (by decide) ?_ | refine GJ.ff (by decide) ?_)
              | (show Br _ _ _; first | refine Br.t (by decide) ?_ | refine Br.f (by decide) ?_)
              | (show GJ _ _ _ _ _ _ _; first | (apply GJ.and; exact rfl; intro hg) | (apply GJ.or; exact rfl; intro hg)))
            exact Wk.outS Sup.auto (.refl _) (hF _ (by simp [rightD, h13, slotB, c1, c2, c3, c4] <;> omega))
      · repeat (first
          | refine SeqOk.pass ?_
          | (show _ ∧ _; exact ⟨rfl, rfl, rfl⟩)
          | refine wkT ?_
          | refine Bs.all ?_
          | (show RetOk _ _ _ _ _ _; refine RetOk.of (T := T) (RL.row rfl rfl LdN.hasBlk (by rfl) (RL.tmp rfl (RL.tmp rfl RL.nil))) ?_)
          | (show QOk _ _ _ _ _ _ _; refine QOk.build rfl rfl Nf.auto ?_)
          | (show OpOk _ _ _ _ _ _ _; first | refine opB (fun b => ?_) | refine opA (fun a' c' hc1 hc2 => ?_))
          | (show GJ _ _ _ _ _ _ _; first | refine GJ.t (by decide) ?_ | refine GJ.f (by decide) ?_ | refine GJ.ft (by decide) ?_ | refine GJ.ff (by decide) ?_)
          | (show Br _ _ _; first | refine Br.t (by decide) ?_ | refine Br.f (by decide) ?_)
          | (show GJ _ _ _ _ _ _ _; first | (apply GJ.and; exact rfl; intro hg) | (apply GJ.or; exact rfl; intro hg)))
        exact Wk.outS Sup.auto (.refl _) (hF _ (by simp [rightD, h13, slotB, c1, c2] <;> omega))
    · repeat (first
        | refine SeqOk.pass ?_
        | (show _ ∧ _; exact ⟨rfl, rfl, rfl⟩)
        | refine wkT ?_
        | refine Bs.all ?_
        | (show RetOk _ _ _ _ _ _; refine RetOk.of (T := T) (RL.row rfl rfl LdN.hasBlk (by rfl) (RL.tmp rfl (RL.tmp rfl RL.nil))) ?_)
        | (show QOk _ _ _ _ _ _ _; refine QOk.build rfl rfl Nf.auto ?_)
        | (show OpOk _ _ _ _ _ _ _; first | refine opB (fun b => ?_) | refine opA (fun a' c' hc1 hc2 => ?_))
        | (show GJ _ _ _ _ _ _ _; first | refine GJ.t (by decide) ?_ | refine GJ.f (by decide) ?_ | refine GJ.ft (by decide) ?_ | refine GJ.ff (by decide) ?_)
        | (show Br _ _ _; first | refine Br.t (by decide) ?_ | refine Br.f (by decide) ?_)
        | (show GJ _ _ _ _ _ _ _; first | (apply GJ.and; exact rfl; intro hg) | (apply GJ.or; exact rfl; intro hg)))
      exact Wk.outS Sup.auto (.refl _) (hF _ (by simp [rightD, h13, slotB, c1] <;> omega))
  by_cases h14 : s.kind = 14
  · rw [kindD_at (n := 13) h14 (by omega), show kindsB[13]! = [99, 104, 111, 105, 99, 101] from rfl]
    repeat (first
      | refine SeqOk.pass ?_
      | (show _ ∧ _; exact ⟨rfl, rfl, rfl⟩)
      | refine wkT ?_
      | refine Bs.all ?_
      | (show RetOk _ _ _ _ _ _; refine RetOk.of (T := T) (RL.row rfl rfl LdN.hasBlk (by rfl) (RL.tmp rfl (RL.tmp rfl RL.nil))) ?_)
      | (show QOk _ _ _ _ _ _ _; refine QOk.build rfl rfl Nf.auto ?_)
      | (show OpOk _ _ _ _ _ _ _; first | refine opB (fun b => ?_) | refine opA (fun a' c' hc1 hc2 => ?_))
      | (show GJ _ _ _ _ _ _ _; first | refine GJ.t (by decide) ?_ | refine GJ.f (by decide) ?_ | refine GJ.ft (by decide) ?_ | refine GJ.ff (by decide) ?_)
      | (show Br _ _ _; first | refine Br.t (by decide) ?_ | refine Br.f (by decide) ?_)
      | (show GJ _ _ _ _ _ _ _; first | (apply GJ.and; exact rfl; intro hg) | (apply GJ.or; exact rfl; intro hg)))
    refine OpOk.loadRow rfl rfl (cs := bytesV s.bytes) (by
      have := LdN.hasBlkPart (ro := ro) (own := .blk b 42 (stepV s x) :: .blk b2 33 (progV p a) :: own) (b := b) (k := 9) (z := 256) (cs := stepV s x) (t := 42)
      rw [show ((stepV s x).drop 9).take 256 = bytesV s.bytes by
        show (bytesV s.bytes).take 256 = _
        rw [List.take_of_length_le (by simp [bytesV, hbl])]] at this
      exact this) (by simp [bytesV, hbl]) ?_
    repeat (first
      | refine SeqOk.pass ?_
      | (show _ ∧ _; exact ⟨rfl, rfl, rfl⟩)
      | refine wkT ?_
      | refine Bs.all ?_
      | (show RetOk _ _ _ _ _ _; refine RetOk.of (T := T) (RL.row rfl rfl LdN.hasBlk (by rfl) (RL.tmp rfl (RL.tmp rfl RL.nil))) ?_)
      | (show QOk _ _ _ _ _ _ _; refine QOk.build rfl rfl Nf.auto ?_)
      | (show OpOk _ _ _ _ _ _ _; first | refine opB (fun b => ?_) | refine opA (fun a' c' hc1 hc2 => ?_))
      | (show GJ _ _ _ _ _ _ _; first | refine GJ.t (by decide) ?_ | refine GJ.f (by decide) ?_ | refine GJ.ft (by decide) ?_ | refine GJ.ff (by decide) ?_)
      | (show Br _ _ _; first | refine Br.t (by decide) ?_ | refine Br.f (by decide) ?_)
      | (show GJ _ _ _ _ _ _ _; first | (apply GJ.and; exact rfl; intro hg) | (apply GJ.or; exact rfl; intro hg)))
    refine LoopOk.at (ι := Nat) Keep.auto (fun i => [(190, .int .i64 (i : Int)), (6, .bool ((s.bytes.take i).all (fun c => decide (c ≤ s.ways.length)) && waysB p s))]) (fun i => .blk b 42 (stepV s x) :: .blk b2 33 (progV p a) :: own) (fun i => i ≤ 256) (fun i => 256 - i) 0 ?_ Sub.auto Sup.auto ?_
    · exact Nat.zero_le _
    rintro i i1
    dsimp only [List.cons_append, List.nil_append] at i1 ⊢
    repeat (first
      | refine SeqOk.pass ?_
      | (show _ ∧ _; exact ⟨rfl, rfl, rfl⟩)
      | refine wkT ?_
      | refine Bs.all ?_
      | (show RetOk _ _ _ _ _ _; refine RetOk.of (T := T) (RL.row rfl rfl LdN.hasBlk (by rfl) (RL.tmp rfl (RL.tmp rfl RL.nil))) ?_)
      | (show QOk _ _ _ _ _ _ _; refine QOk.build rfl rfl Nf.auto ?_)
      | (show OpOk _ _ _ _ _ _ _; first | refine opB (fun b => ?_) | refine opA (fun a' c' hc1 hc2 => ?_))
      | (show GJ _ _ _ _ _ _ _; first | refine GJ.t (by decide) ?_ | refine GJ.f (by decide) ?_ | refine GJ.ft (by decide) ?_ | refine GJ.ff (by decide) ?_)
      | (show Br _ _ _; first | refine Br.t (by decide) ?_ | refine Br.f (by decide) ?_)
      | (show GJ _ _ _ _ _ _ _; first | (apply GJ.and; exact rfl; intro hg) | (apply GJ.or; exact rfl; intro hg)))
    refine Br.cases (fun hg => ?_) (fun hg => ?_)
    · obtain ⟨c, hci⟩ : ∃ c, s.bytes[i]? = some c := ⟨_, List.getElem?_eq_getElem (by omega)⟩
      have hcl := hs.inn.lt c (List.mem_of_getElem? hci)
      have htk : (s.bytes.take (i + 1)).all (fun c => decide (c ≤ s.ways.length)) = ((s.bytes.take i).all (fun c => decide (c ≤ s.ways.length)) && decide ((c : Int) ≤ (s.ways.length : Int))) := by
        rw [List.take_add_one, hci, List.all_append]
        congr 1
        simp
      repeat (first
        | refine SeqOk.pass ?_
        | (show _ ∧ _; exact ⟨rfl, rfl, rfl⟩)
        | refine wkT ?_
        | refine Bs.all ?_
        | (show RetOk _ _ _ _ _ _; refine RetOk.of (T := T) (RL.row rfl rfl LdN.hasBlk (by rfl) (RL.tmp rfl (RL.tmp rfl RL.nil))) ?_)
        | (show QOk _ _ _ _ _ _ _; refine QOk.build rfl rfl Nf.auto ?_)
        | (show OpOk _ _ _ _ _ _ _; first | refine opB (fun b => ?_) | refine opA (fun a' c' hc1 hc2 => ?_))
        | (show GJ _ _ _ _ _ _ _; first | refine GJ.t (by decide) ?_ | refine GJ.f (by decide) ?_ | refine GJ.ft (by decide) ?_ | refine GJ.ff (by decide) ?_)
        | (show Br _ _ _; first | refine Br.t (by decide) ?_ | refine Br.f (by decide) ?_)
        | (show GJ _ _ _ _ _ _ _; first | (apply GJ.and; exact rfl; intro hg) | (apply GJ.or; exact rfl; intro hg)))
      refine OpOk.index1 (k := i) (e := 5) (n := 256) rfl rfl (by kernel_rfl) Tryd.underlying5 rfl (by kernel_rfl) rfl (by omega) (show (bytesV s.bytes)[i]? = some (.int .u8 (c : Int)) by simp [bytesV, hci]) ?_
      cases hp : ((s.bytes.take i).all (fun c => decide (c ≤ s.ways.length)) && waysB p s) with
      | false =>
        repeat (first
          | refine SeqOk.pass ?_
          | (show _ ∧ _; exact ⟨rfl, rfl, rfl⟩)
          | refine wkT ?_
          | refine Bs.all ?_
          | (show RetOk _ _ _ _ _ _; refine RetOk.of (T := T) (RL.row rfl rfl LdN.hasBlk (by rfl) (RL.tmp rfl (RL.tmp rfl RL.nil))) ?_)
          | (show QOk _ _ _ _ _ _ _; refine QOk.build rfl rfl Nf.auto ?_)
          | (show OpOk _ _ _ _ _ _ _; first | refine opB (fun b => ?_) | refine opA (fun a' c' hc1 hc2 => ?_))
          | (show GJ _ _ _ _ _ _ _; first | refine GJ.t (by decide) ?_ | refine GJ.f (by decide) ?_ | refine GJ.ft (by decide) ?_ | refine GJ.ff (by decide) ?_)
          | (show Br _ _ _; first | refine Br.t (by decide) ?_ | refine Br.f (by decide) ?_)
          | (show GJ _ _ _ _ _ _ _; first | (apply GJ.and; exact rfl; intro hg) | (apply GJ.or; exact rfl; intro hg)))
        refine Wk.id ⟨i + 1, ⟨rfl, ?_⟩, ?_, ?_, Sup.auto⟩
        · omega
        · omega
        · rw [htk, Bool.and_right_comm, hp, Bool.false_and]
          exact (by repeat (first | exact trivial | refine Sub.cons rfl ?_))
      | true =>
        repeat (first
          | refine SeqOk.pass ?_
          | (show _ ∧ _; exact ⟨rfl, rfl, rfl⟩)
          | refine wkT ?_
          | refine Bs.all ?_
          | (show RetOk _ _ _ _ _ _; refine RetOk.of (T := T) (RL.row rfl rfl LdN.hasBlk (by rfl) (RL.tmp rfl (RL.tmp rfl RL.nil))) ?_)
          | (show QOk _ _ _ _ _ _ _; refine QOk.build rfl rfl Nf.auto ?_)
          | (show OpOk _ _ _ _ _ _ _; first | refine opB (fun b => ?_) | refine opA (fun a' c' hc1 hc2 => ?_))
          | (show GJ _ _ _ _ _ _ _; first | refine GJ.t (by decide) ?_ | refine GJ.f (by decide) ?_ | refine GJ.ft (by decide) ?_ | refine GJ.ff (by decide) ?_)
          | (show Br _ _ _; first | refine Br.t (by decide) ?_ | refine Br.f (by decide) ?_)
          | (show GJ _ _ _ _ _ _ _; first | (apply GJ.and; exact rfl; intro hg) | (apply GJ.or; exact rfl; intro hg)))
        refine Wk.id ⟨i + 1, ⟨rfl, ?_⟩, ?_, ?_, Sup.auto⟩
        · omega
        · omega
        · rw [htk, Bool.and_right_comm, hp, Bool.true_and]
          exact (by repeat (first | exact trivial | refine Sub.cons rfl ?_))
    · obtain rfl : i = 256 := by omega
      rw [List.take_of_length_le (by omega)]
      repeat (first
        | refine SeqOk.pass ?_
        | (show _ ∧ _; exact ⟨rfl, rfl, rfl⟩)
        | refine wkT ?_
        | refine Bs.all ?_
        | (show RetOk _ _ _ _ _ _; refine RetOk.of (T := T) (RL.row rfl rfl LdN.hasBlk (by rfl) (RL.tmp rfl (RL.tmp rfl RL.nil))) ?_)
        | (show QOk _ _ _ _ _ _ _; refine QOk.build rfl rfl Nf.auto ?_)
        | (show OpOk _ _ _ _ _ _ _; first | refine opB (fun b => ?_) | refine opA (fun a' c' hc1 hc2 => ?_))
        | (show GJ _ _ _ _ _ _ _; first | refine GJ.t (by decide) ?_ | refine GJ.f (by decide) ?_ | refine GJ.ft (by decide) ?_ | refine GJ.ff (by decide) ?_)
        | (show Br _ _ _; first | refine Br.t (by decide) ?_ | refine Br.f (by decide) ?_)
        | (show GJ _ _ _ _ _ _ _; first | (apply GJ.and; exact rfl; intro hg) | (apply GJ.or; exact rfl; intro hg)))
      exact Wk.outS Sup.auto (.refl _) (hF _ (by simp [rightD, h14]))
  by_cases h15 : s.kind = 15
  · rw [kindD_at (n := 14) h15 (by omega), show kindsB[14]! = [99, 97, 108, 108] from rfl]
    repeat (first
      | refine SeqOk.pass ?_
      | (show _ ∧ _; exact ⟨rfl, rfl, rfl⟩)
      | refine wkT ?_
      | refine Bs.all ?_
      | (show RetOk _ _ _ _ _ _; refine RetOk.of (T := T) (RL.row rfl rfl LdN.hasBlk (by rfl) (RL.tmp rfl (RL.tmp rfl RL.nil))) ?_)
      | (show QOk _ _ _ _ _ _ _; refine QOk.build rfl rfl Nf.auto ?_)
      | (show OpOk _ _ _ _ _ _ _; first | refine opB (fun b => ?_) | refine opA (fun a' c' hc1 hc2 => ?_))
      | (show GJ _ _ _ _ _ _ _; first | refine GJ.t (by decide) ?_ | refine GJ.f (by decide) ?_ | refine GJ.ft (by decide) ?_ | refine GJ.ff (by decide) ?_)
      | (show Br _ _ _; first | refine Br.t (by decide) ?_ | refine Br.f (by decide) ?_)
      | (show GJ _ _ _ _ _ _ _; first | (apply GJ.and; exact rfl; intro hg) | (apply GJ.or; exact rfl; intro hg)))
    refine toC_ok ?_
    repeat (first
      | refine SeqOk.pass ?_
      | (show _ ∧ _; exact ⟨rfl, rfl, rfl⟩)
      | refine wkT ?_
      | refine Bs.all ?_
      | (show RetOk _ _ _ _ _ _; refine RetOk.of (T := T) (RL.row rfl rfl LdN.hasBlk (by rfl) (RL.tmp rfl (RL.tmp rfl RL.nil))) ?_)
      | (show QOk _ _ _ _ _ _ _; refine QOk.build rfl rfl Nf.auto ?_)
      | (show OpOk _ _ _ _ _ _ _; first | refine opB (fun b => ?_) | refine opA (fun a' c' hc1 hc2 => ?_))
      | (show GJ _ _ _ _ _ _ _; first | refine GJ.t (by decide) ?_ | refine GJ.f (by decide) ?_ | refine GJ.ft (by decide) ?_ | refine GJ.ff (by decide) ?_)
      | (show Br _ _ _; first | refine Br.t (by decide) ?_ | refine Br.f (by decide) ?_)
      | (show GJ _ _ _ _ _ _ _; first | (apply GJ.and; exact rfl; intro hg) | (apply GJ.or; exact rfl; intro hg)))
    exact Wk.outS Sup.auto (.refl _) (hF _ (by rw [Bool.eq_iff_iff]; simp [rightD, h15, slotB, toB] <;> omega))
  by_cases h16 : s.kind = 16
  · rw [kindD_at (n := 15) h16 (by omega), show kindsB[15]! = [114, 101, 116, 117, 114, 110] from rfl]
    repeat (first
      | refine SeqOk.pass ?_
      | (show _ ∧ _; exact ⟨rfl, rfl, rfl⟩)
      | refine wkT ?_
      | refine Bs.all ?_
      | (show RetOk _ _ _ _ _ _; refine RetOk.of (T := T) (RL.row rfl rfl LdN.hasBlk (by rfl) (RL.tmp rfl (RL.tmp rfl RL.nil))) ?_)
      | (show QOk _ _ _ _ _ _ _; refine QOk.build rfl rfl Nf.auto ?_)
      | (show OpOk _ _ _ _ _ _ _; first | refine opB (fun b => ?_) | refine opA (fun a' c' hc1 hc2 => ?_))
      | (show GJ _ _ _ _ _ _ _; first | refine GJ.t (by decide) ?_ | refine GJ.f (by decide) ?_ | refine GJ.ft (by decide) ?_ | refine GJ.ff (by decide) ?_)
      | (show Br _ _ _; first | refine Br.t (by decide) ?_ | refine Br.f (by decide) ?_)
      | (show GJ _ _ _ _ _ _ _; first | (apply GJ.and; exact rfl; intro hg) | (apply GJ.or; exact rfl; intro hg)))
    exact Wk.outS Sup.auto (.refl _) (hF _ (by rw [Bool.eq_iff_iff]; simp [rightD, h16, slotB, toB] <;> omega))
  by_cases h17 : s.kind = 17
  · rw [kindD_at (n := 16) h17 (by omega), show kindsB[16]! = [109, 97, 114, 107] from rfl]
    repeat (first
      | refine SeqOk.pass ?_
      | (show _ ∧ _; exact ⟨rfl, rfl, rfl⟩)
      | refine wkT ?_
      | refine Bs.all ?_
      | (show RetOk _ _ _ _ _ _; refine RetOk.of (T := T) (RL.row rfl rfl LdN.hasBlk (by rfl) (RL.tmp rfl (RL.tmp rfl RL.nil))) ?_)
      | (show QOk _ _ _ _ _ _ _; refine QOk.build rfl rfl Nf.auto ?_)
      | (show OpOk _ _ _ _ _ _ _; first | refine opB (fun b => ?_) | refine opA (fun a' c' hc1 hc2 => ?_))
      | (show GJ _ _ _ _ _ _ _; first | refine GJ.t (by decide) ?_ | refine GJ.f (by decide) ?_ | refine GJ.ft (by decide) ?_ | refine GJ.ff (by decide) ?_)
      | (show Br _ _ _; first | refine Br.t (by decide) ?_ | refine Br.f (by decide) ?_)
      | (show GJ _ _ _ _ _ _ _; first | (apply GJ.and; exact rfl; intro hg) | (apply GJ.or; exact rfl; intro hg)))
    exact Wk.outS Sup.auto (.refl _) (hF _ (by rw [Bool.eq_iff_iff]; simp [rightD, h17, slotB, toB] <;> omega))
  by_cases h18 : s.kind = 18
  · rw [kindD_at (n := 17) h18 (by omega), show kindsB[17]! = [115, 116, 111, 112] from rfl]
    repeat (first
      | refine SeqOk.pass ?_
      | (show _ ∧ _; exact ⟨rfl, rfl, rfl⟩)
      | refine wkT ?_
      | refine Bs.all ?_
      | (show RetOk _ _ _ _ _ _; refine RetOk.of (T := T) (RL.row rfl rfl LdN.hasBlk (by rfl) (RL.tmp rfl (RL.tmp rfl RL.nil))) ?_)
      | (show QOk _ _ _ _ _ _ _; refine QOk.build rfl rfl Nf.auto ?_)
      | (show OpOk _ _ _ _ _ _ _; first | refine opB (fun b => ?_) | refine opA (fun a' c' hc1 hc2 => ?_))
      | (show GJ _ _ _ _ _ _ _; first | refine GJ.t (by decide) ?_ | refine GJ.f (by decide) ?_ | refine GJ.ft (by decide) ?_ | refine GJ.ff (by decide) ?_)
      | (show Br _ _ _; first | refine Br.t (by decide) ?_ | refine Br.f (by decide) ?_)
      | (show GJ _ _ _ _ _ _ _; first | (apply GJ.and; exact rfl; intro hg) | (apply GJ.or; exact rfl; intro hg)))
    exact Wk.outS Sup.auto (.refl _) (hF _ (by rw [Bool.eq_iff_iff]; simp [rightD, h18, slotB, toB] <;> omega))
  by_cases h19 : s.kind = 19
  · rw [kindD_at (n := 18) h19 (by omega), show kindsB[18]! = [115, 117, 109] from rfl]
    repeat (first
      | refine SeqOk.pass ?_
      | (show _ ∧ _; exact ⟨rfl, rfl, rfl⟩)
      | refine wkT ?_
      | refine Bs.all ?_
      | (show RetOk _ _ _ _ _ _; refine RetOk.of (T := T) (RL.row rfl rfl LdN.hasBlk (by rfl) (RL.tmp rfl (RL.tmp rfl RL.nil))) ?_)
      | (show QOk _ _ _ _ _ _ _; refine QOk.build rfl rfl Nf.auto ?_)
      | (show OpOk _ _ _ _ _ _ _; first | refine opB (fun b => ?_) | refine opA (fun a' c' hc1 hc2 => ?_))
      | (show GJ _ _ _ _ _ _ _; first | refine GJ.t (by decide) ?_ | refine GJ.f (by decide) ?_ | refine GJ.ft (by decide) ?_ | refine GJ.ff (by decide) ?_)
      | (show Br _ _ _; first | refine Br.t (by decide) ?_ | refine Br.f (by decide) ?_)
      | (show GJ _ _ _ _ _ _ _; first | (apply GJ.and; exact rfl; intro hg) | (apply GJ.or; exact rfl; intro hg)))
    exact Wk.outS Sup.auto (.refl _) (hF _ (by rw [Bool.eq_iff_iff]; simp [rightD, h19, slotB, toB] <;> omega))
  by_cases h20 : s.kind = 20
  · rw [kindD_at (n := 19) h20 (by omega), show kindsB[19]! = [101, 110, 100] from rfl]
    repeat (first
      | refine SeqOk.pass ?_
      | (show _ ∧ _; exact ⟨rfl, rfl, rfl⟩)
      | refine wkT ?_
      | refine Bs.all ?_
      | (show RetOk _ _ _ _ _ _; refine RetOk.of (T := T) (RL.row rfl rfl LdN.hasBlk (by rfl) (RL.tmp rfl (RL.tmp rfl RL.nil))) ?_)
      | (show QOk _ _ _ _ _ _ _; refine QOk.build rfl rfl Nf.auto ?_)
      | (show OpOk _ _ _ _ _ _ _; first | refine opB (fun b => ?_) | refine opA (fun a' c' hc1 hc2 => ?_))
      | (show GJ _ _ _ _ _ _ _; first | refine GJ.t (by decide) ?_ | refine GJ.f (by decide) ?_ | refine GJ.ft (by decide) ?_ | refine GJ.ff (by decide) ?_)
      | (show Br _ _ _; first | refine Br.t (by decide) ?_ | refine Br.f (by decide) ?_)
      | (show GJ _ _ _ _ _ _ _; first | (apply GJ.and; exact rfl; intro hg) | (apply GJ.or; exact rfl; intro hg)))
    exact Wk.outS Sup.auto (.refl _) (hF _ (by rw [Bool.eq_iff_iff]; simp [rightD, h20, slotB, toB] <;> omega))
  rw [kindD_no (by omega)]
  have hR : rightD p s = false := by simp [rightD, *]
  repeat (first
    | refine SeqOk.pass ?_
    | (show _ ∧ _; exact ⟨rfl, rfl, rfl⟩)
    | refine wkT ?_
    | refine Bs.all ?_
    | (show RetOk _ _ _ _ _ _; refine RetOk.of (T := T) (RL.row rfl rfl LdN.hasBlk (by rfl) (RL.tmp rfl (RL.tmp rfl RL.nil))) ?_)
    | (show QOk _ _ _ _ _ _ _; refine QOk.build rfl rfl Nf.auto ?_)
    | (show OpOk _ _ _ _ _ _ _; first | refine opB (fun b => ?_) | refine opA (fun a' c' hc1 hc2 => ?_))
    | (show GJ _ _ _ _ _ _ _; first | refine GJ.t (by decide) ?_ | refine GJ.f (by decide) ?_ | refine GJ.ft (by decide) ?_ | refine GJ.ff (by decide) ?_)
    | (show Br _ _ _; first | refine Br.t (by decide) ?_ | refine Br.f (by decide) ?_)
    | (show GJ _ _ _ _ _ _ _; first | (apply GJ.and; exact rfl; intro hg) | (apply GJ.or; exact rfl; intro hg)))
  exact Wk.outS Sup.auto (.refl _) (hF _ hR)
end
end Go.Proofs.YtniofdklhlbphaaDoor
