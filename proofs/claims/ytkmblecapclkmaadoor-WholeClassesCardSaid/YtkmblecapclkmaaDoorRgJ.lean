/- Contracts of the statements of regex: few, deep; of regex: Same. -/
import Derived.Test.YtkmblecapclkmaaDoorRgA
namespace Go.Proofs.YtkmblecapclkmaaDoor
open Go Go.E
set_option linter.unusedVariables false
set_option linter.unusedSimpArgs false
set_option maxRecDepth 10000
mutual
theorem few_left : ∀ (n : RgD) (M : Int), (fewD n M).1 = true → 0 ≤ (fewD n M).2 ∧ (fewD n M).2 ≤ M - 1
  | .mk k s l a b, M, h => by
    rw [fewD] at h ⊢
    split at h
    · cases h
    · rename_i h1
      rw [if_neg h1]
      have := fewK_left l (M - 1) (by omega) h
      omega
theorem fewK_left : ∀ (l : List RgD) (M : Int), 0 ≤ M → (fewK l M).1 = true → 0 ≤ (fewK l M).2 ∧ (fewK l M).2 ≤ M
  | [], M, h0, h => by rw [fewK]; exact ⟨h0, Int.le_refl _⟩
  | x :: r, M, h0, h => by
    rw [fewK] at h ⊢
    split at h
    · rename_i h1
      rw [if_pos h1]
      have h2 := few_left x M h1
      have := fewK_left r (fewD x M).2 h2.1 h
      omega
    · cases h
end
structure FwC (n : RgD) : Prop where
  run : ∀ {ro : Ro} {r : Chs} {K : Value → Ro → Chs → Prop} {p : Nat} {v : List Value} {M : Int}, RgOk ro n v → 0 ≤ M → M ≤ 100000 → K (.bool (fewD n M).1) ro (.blk p 3 [.int .i64 (fewD n M).2] :: r) →
    CallOk Tryd.prog 26 #[.agg v.toArray, ptr' p] ro (.blk p 3 [.int .i64 M] :: r) K
set_option maxHeartbeats 16000000 in
theorem fwC : ∀ n, FwC n := RgD.ind fun k z l x y ih => ⟨fun {ro r K p v M} hv hM hM2 hk => by
  rw [RgOk] at hv
  obtain ⟨ad, cp, cs, rfl, hs, hrs, hks⟩ := hv
  have hle := hrs.le
  have hmx := hrs.max
  unfold maxLen at hmx
  rw [fewD] at hk
  by_cases h0 : M - 1 < 0
  · rw [if_pos (.inl h0)] at hk
    refine CallOk.intro (args := [_, _]) (rs := [_]) T_ok Tryd.func26 Tryd.call26 rfl rfl (by kernel_rfl) rfl rfl ?_
    repeat (first
      | refine SeqOk.pass ?_
      | (show _ ∧ _; exact ⟨rfl, rfl, rfl⟩)
      | refine wkT ?_
      | refine Bs.all ?_
      | (show RetOk _ _ _ _ _ _; refine RetOk.of (T := T) (RL.row rfl rfl LdN.hasBlk (by rfl) (RL.tmp rfl (RL.tmp rfl RL.nil))) ?_)
      | (show QOk _ _ _ _ _ _ _; refine QOk.build rfl rfl Nf.auto ?_)
      | (show OpOk _ _ _ _ _ _ _; first | refine opB (fun b => ?_) | refine opA (fun a' c' hc1 hc2 => ?_))
      | (show GJ _ _ _ _ _ _ _; first | refine GJ.t (by decide) ?_ | refine GJ.f (by decide) ?_ | refine GJ.ft (by decide) ?_ | refine GJ.ff (by decide) ?_)
      | (show Br _ _ _; first | refine Br.t (by decide) ?_ | refine Br.f (by decide) ?_)
      | (show GJ _ _ _ _ _ _ _; first | (apply GJ.and; exact rfl; intro hg) | (apply GJ.or; exact rfl; intro hg)))
    exact Wk.outS Sup.auto (.refl _) hk
  by_cases h100 : 100 < l.length
  · rw [if_pos (.inr h100)] at hk
    refine CallOk.intro (args := [_, _]) (rs := [_]) T_ok Tryd.func26 Tryd.call26 rfl rfl (by kernel_rfl) rfl rfl ?_
    repeat (first
      | refine SeqOk.pass ?_
      | (show _ ∧ _; exact ⟨rfl, rfl, rfl⟩)
      | refine wkT ?_
      | refine Bs.all ?_
      | (show RetOk _ _ _ _ _ _; refine RetOk.of (T := T) (RL.row rfl rfl LdN.hasBlk (by rfl) (RL.tmp rfl (RL.tmp rfl RL.nil))) ?_)
      | (show QOk _ _ _ _ _ _ _; refine QOk.build rfl rfl Nf.auto ?_)
      | (show OpOk _ _ _ _ _ _ _; first | refine opB (fun b => ?_) | refine opA (fun a' c' hc1 hc2 => ?_))
      | (show GJ _ _ _ _ _ _ _; first | refine GJ.t (by decide) ?_ | refine GJ.f (by decide) ?_ | refine GJ.ft (by decide) ?_ | refine GJ.ff (by decide) ?_)
      | (show Br _ _ _; first | refine Br.t (by decide) ?_ | refine Br.f (by decide) ?_)
      | (show GJ _ _ _ _ _ _ _; first | (apply GJ.and; exact rfl; intro hg) | (apply GJ.or; exact rfl; intro hg)))
    exact Wk.outS Sup.auto (.refl _) hk
  rw [if_neg (fun x => x.elim h0 h100)] at hk
  refine CallOk.intro (args := [_, _]) (rs := [_]) T_ok Tryd.func26 Tryd.call26 rfl rfl (by kernel_rfl) rfl rfl ?_
  repeat (first
    | refine SeqOk.pass ?_
    | (show _ ∧ _; exact ⟨rfl, rfl, rfl⟩)
    | refine wkT ?_
    | refine Bs.all ?_
    | (show RetOk _ _ _ _ _ _; refine RetOk.of (T := T) (RL.row rfl rfl LdN.hasBlk (by rfl) (RL.tmp rfl (RL.tmp rfl RL.nil))) ?_)
    | (show QOk _ _ _ _ _ _ _; refine QOk.build rfl rfl Nf.auto ?_)
    | (show OpOk _ _ _ _ _ _ _; first | refine opB (fun b => ?_) | refine opA (fun a' c' hc1 hc2 => ?_))
    | (show GJ _ _ _ _ _ _ _; first | refine GJ.t (by decide) ?_ | refine GJ.f (by decide) ?_ | refine GJ.ft (by decide) ?_ | refine GJ.ff (by decide) ?_)
    | (show Br _ _ _; first | refine Br.t (by decide) ?_ | refine Br.f (by decide) ?_)
    | (show GJ _ _ _ _ _ _ _; first | (apply GJ.and; exact rfl; intro hg) | (apply GJ.or; exact rfl; intro hg)))
  refine LoopOk.at (ι := Nat × Int) Keep.auto (fun (i, Mi) => [(25, .int .i64 (i : Int))]) (fun (i, Mi) => .blk p 3 [.int .i64 Mi] :: r) (fun (i, Mi) => i ≤ l.length ∧ 0 ≤ Mi ∧ Mi ≤ M - 1 ∧ fewK l (M - 1) = fewK (l.drop i) Mi) (fun (i, Mi) => l.length - i) (0, M - 1) ?_ Sub.auto Sup.auto ?_
  · exact ⟨Nat.zero_le _, by omega, Int.le_refl _, by simp⟩
  rintro ⟨i, Mi⟩ ⟨i1, i2, i3, i4⟩
  dsimp only [List.cons_append, List.nil_append] at i1 i2 i3 i4 ⊢
  by_cases hi : i < l.length
  · obtain ⟨kd, hkd⟩ : ∃ kd, l[i]? = some kd := ⟨_, List.getElem?_eq_getElem hi⟩
    have hvv := hks.get hkd
    obtain ⟨ak, ck, hvk⟩ := hvv.cells
    rw [hvk] at hvv
    have hdr : l.drop i = kd :: l.drop (i + 1) := by
      rw [List.drop_eq_getElem_cons hi]
      congr 1
      rw [List.getElem?_eq_getElem hi] at hkd
      exact Option.some.inj hkd
    rw [hdr, fewK] at i4
    have hleft := few_left kd Mi
    repeat (first
      | refine SeqOk.pass ?_
      | (show _ ∧ _; exact ⟨rfl, rfl, rfl⟩)
      | refine wkT ?_
      | refine Bs.all ?_
      | (show RetOk _ _ _ _ _ _; refine RetOk.of (T := T) (RL.row rfl rfl LdN.hasBlk (by rfl) (RL.tmp rfl (RL.tmp rfl RL.nil))) ?_)
      | (show QOk _ _ _ _ _ _ _; refine QOk.build rfl rfl Nf.auto ?_)
      | (show OpOk _ _ _ _ _ _ _; first | refine opB (fun b => ?_) | refine opA (fun a' c' hc1 hc2 => ?_))
      | (show GJ _ _ _ _ _ _ _; first | refine GJ.t (by decide) ?_ | refine GJ.f (by decide) ?_ | refine GJ.ft (by decide) ?_ | refine GJ.ff (by decide) ?_)
      | (show Br _ _ _; first | refine Br.t (by decide) ?_ | refine Br.f (by decide) ?_)
      | (show GJ _ _ _ _ _ _ _; first | (apply GJ.and; exact rfl; intro hg) | (apply GJ.or; exact rfl; intro hg)))
    rw [Int.toNat_natCast]
    refine OpOk.loadRow rfl rfl (LdN.at hrs hvk) rfl ?_
    repeat (first
      | refine SeqOk.pass ?_
      | (show _ ∧ _; exact ⟨rfl, rfl, rfl⟩)
      | refine wkT ?_
      | refine Bs.all ?_
      | (show RetOk _ _ _ _ _ _; refine RetOk.of (T := T) (RL.row rfl rfl LdN.hasBlk (by rfl) (RL.tmp rfl (RL.tmp rfl RL.nil))) ?_)
      | (show QOk _ _ _ _ _ _ _; refine QOk.build rfl rfl Nf.auto ?_)
      | (show OpOk _ _ _ _ _ _ _; first | refine opB (fun b => ?_) | refine opA (fun a' c' hc1 hc2 => ?_))
      | (show GJ _ _ _ _ _ _ _; first | refine GJ.t (by decide) ?_ | refine GJ.f (by decide) ?_ | refine GJ.ft (by decide) ?_ | refine GJ.ff (by decide) ?_)
      | (show Br _ _ _; first | refine Br.t (by decide) ?_ | refine Br.f (by decide) ?_)
      | (show GJ _ _ _ _ _ _ _; first | (apply GJ.and; exact rfl; intro hg) | (apply GJ.or; exact rfl; intro hg)))
    refine CallOk.sup (own0 := .blk p 3 [.int .i64 Mi] :: r) Sup.auto ?_
    refine (ih kd (List.mem_of_getElem? hkd)).run hvv i2 (by omega) ?_
    generalize fewD kd Mi = R at i4 hleft ⊢
    obtain ⟨R1, R2⟩ := R
    dsimp only at i4 hleft ⊢
    cases R1 with
    | true =>
      rw [if_pos rfl] at i4
      obtain ⟨h5, h6⟩ := hleft rfl
      repeat (first
        | refine SeqOk.pass ?_
        | (show _ ∧ _; exact ⟨rfl, rfl, rfl⟩)
        | refine wkT ?_
        | refine Bs.all ?_
        | (show RetOk _ _ _ _ _ _; refine RetOk.of (T := T) (RL.row rfl rfl LdN.hasBlk (by rfl) (RL.tmp rfl (RL.tmp rfl RL.nil))) ?_)
        | (show QOk _ _ _ _ _ _ _; refine QOk.build rfl rfl Nf.auto ?_)
        | (show OpOk _ _ _ _ _ _ _; first | refine opB (fun b => ?_) | refine opA (fun a' c' hc1 hc2 => ?_))
        | (show GJ _ _ _ _ _ _ _; first | refine GJ.t (by decide) ?_ | refine GJ.f (by decide) ?_ | refine GJ.ft (by decide) ?_ | refine GJ.ff (by decide) ?_)
        | (show Br _ _ _; first | refine Br.t (by decide) ?_ | refine Br.f (by decide) ?_)
        | (show GJ _ _ _ _ _ _ _; first | (apply GJ.and; exact rfl; intro hg) | (apply GJ.or; exact rfl; intro hg)))
      refine Wk.id ⟨(i + 1, R2), ⟨rfl, ?_⟩, ?_, Sub.auto, Sup.auto⟩
      all_goals try dsimp only
      · exact ⟨by omega, h5, by omega, i4⟩
      · omega
    | false =>
      rw [if_neg (by decide)] at i4
      rw [i4] at hk
      repeat (first
        | refine SeqOk.pass ?_
        | (show _ ∧ _; exact ⟨rfl, rfl, rfl⟩)
        | refine wkT ?_
        | refine Bs.all ?_
        | (show RetOk _ _ _ _ _ _; refine RetOk.of (T := T) (RL.row rfl rfl LdN.hasBlk (by rfl) (RL.tmp rfl (RL.tmp rfl RL.nil))) ?_)
        | (show QOk _ _ _ _ _ _ _; refine QOk.build rfl rfl Nf.auto ?_)
        | (show OpOk _ _ _ _ _ _ _; first | refine opB (fun b => ?_) | refine opA (fun a' c' hc1 hc2 => ?_))
        | (show GJ _ _ _ _ _ _ _; first | refine GJ.t (by decide) ?_ | refine GJ.f (by decide) ?_ | refine GJ.ft (by decide) ?_ | refine GJ.ff (by decide) ?_)
        | (show Br _ _ _; first | refine Br.t (by decide) ?_ | refine Br.f (by decide) ?_)
        | (show GJ _ _ _ _ _ _ _; first | (apply GJ.and; exact rfl; intro hg) | (apply GJ.or; exact rfl; intro hg)))
      exact Wk.outS Sup.auto (.refl _) hk
  · obtain rfl : i = l.length := by omega
    rw [List.drop_length, fewK] at i4
    rw [i4] at hk
    repeat (first
      | refine SeqOk.pass ?_
      | (show _ ∧ _; exact ⟨rfl, rfl, rfl⟩)
      | refine wkT ?_
      | refine Bs.all ?_
      | (show RetOk _ _ _ _ _ _; refine RetOk.of (T := T) (RL.row rfl rfl LdN.hasBlk (by rfl) (RL.tmp rfl (RL.tmp rfl RL.nil))) ?_)
      | (show QOk _ _ _ _ _ _ _; refine QOk.build rfl rfl Nf.auto ?_)
      | (show OpOk _ _ _ _ _ _ _; first | refine opB (fun b => ?_) | refine opA (fun a' c' hc1 hc2 => ?_))
      | (show GJ _ _ _ _ _ _ _; first | refine GJ.t (by decide) ?_ | refine GJ.f (by decide) ?_ | refine GJ.ft (by decide) ?_ | refine GJ.ff (by decide) ?_)
      | (show Br _ _ _; first | refine Br.t (by decide) ?_ | refine Br.f (by decide) ?_)
      | (show GJ _ _ _ _ _ _ _; first | (apply GJ.and; exact rfl; intro hg) | (apply GJ.or; exact rfl; intro hg)))
    exact Wk.outS Sup.auto (.refl _) hk⟩
mutual
theorem deep_size : ∀ (n : RgD), deepD n ≤ sizeD n
  | .mk k s l a b => by rw [deepD, sizeD]; have := deepK_size l; omega
theorem deepK_size : ∀ (l : List RgD), deepK l ≤ sizeK l
  | [] => Nat.le_refl _
  | x :: r => by rw [deepK, sizeK]; have := deep_size x; have := deepK_size r; omega
end
theorem deepK_app : ∀ (a b : List RgD), deepK (a ++ b) = Max.max (deepK a) (deepK b)
  | [], b => by simp [deepK]
  | x :: a, b => by rw [List.cons_append, deepK, deepK, deepK_app a b, Nat.max_assoc]
structure DpC (n : RgD) : Prop where
  run : ∀ {ro : Ro} {own : Chs} {K : Value → Ro → Chs → Prop} {v : List Value}, RgOk ro n v → sizeD n ≤ 1000000 → K (.int .i64 (deepD n : Int)) ro own → CallOk Tryd.prog 40 #[.agg v.toArray] ro own K
set_option maxHeartbeats 16000000 in
theorem dpC : ∀ n, DpC n := RgD.ind fun k z l x y ih => ⟨fun {ro own K v} hv hsz hk => by
  rw [RgOk] at hv
  obtain ⟨ad, cp, cs, rfl, hs, hrs, hks⟩ := hv
  have hle := hrs.le
  have hmx := hrs.max
  unfold maxLen at hmx
  rw [deepD] at hk
  rw [sizeD] at hsz
  have hdz := deepK_size l
  refine CallOk.intro (args := [_]) (rs := [_]) T_ok Tryd.func40 Tryd.call40 rfl rfl (by kernel_rfl) rfl rfl ?_
  repeat (first
    | refine SeqOk.pass ?_
    | (show _ ∧ _; exact ⟨rfl, rfl, rfl⟩)
    | refine wkT ?_
    | refine Bs.all ?_
    | (show RetOk _ _ _ _ _ _; refine RetOk.of (T := T) (RL.row rfl rfl LdN.hasBlk (by rfl) (RL.tmp rfl (RL.tmp rfl RL.nil))) ?_)
    | (show QOk _ _ _ _ _ _ _; refine QOk.build rfl rfl Nf.auto ?_)
    | (show OpOk _ _ _ _ _ _ _; first | refine opB (fun b => ?_) | refine opA (fun a' c' hc1 hc2 => ?_))
    | (show GJ _ _ _ _ _ _ _; first | refine GJ.t (by decide) ?_ | refine GJ.f (by decide) ?_ | refine GJ.ft (by decide) ?_ | refine GJ.ff (by decide) ?_)
    | (show Br _ _ _; first | refine Br.t (by decide) ?_ | refine Br.f (by decide) ?_)
    | (show GJ _ _ _ _ _ _ _; first | (apply GJ.and; exact rfl; intro hg) | (apply GJ.or; exact rfl; intro hg)))
  refine LoopOk.at (ι := Nat) Keep.auto (fun i => [(9, .int .i64 (i : Int)), (3, .int .i64 (deepK (l.take i) : Int))]) (fun i => own) (fun i => i ≤ l.length) (fun i => l.length - i) 0 ?_ Sub.auto Sup.auto ?_
  · exact Nat.zero_le _
  rintro i i1
  dsimp only [List.cons_append, List.nil_append] at i1 ⊢
  by_cases hi : i < l.length
  · obtain ⟨kd, hkd⟩ : ∃ kd, l[i]? = some kd := ⟨_, List.getElem?_eq_getElem hi⟩
    have hvv := hks.get hkd
    obtain ⟨ak, ck, hvk⟩ := hvv.cells
    rw [hvk] at hvv
    have htk : deepK (l.take (i + 1)) = Max.max (deepK (l.take i)) (deepD kd) := by
      rw [List.take_add_one, hkd]; show deepK (l.take i ++ [kd]) = _
      rw [deepK_app, deepK, deepK]; simp
    have hkz : sizeD kd ≤ sizeK l := by
      have h1 : l = l.take i ++ (kd :: l.drop (i + 1)) := by
        conv => lhs; rw [← List.take_append_drop i l]
        congr 1
        rw [List.drop_eq_getElem_cons hi]
        congr 1
        rw [List.getElem?_eq_getElem hi] at hkd
        exact Option.some.inj hkd
      rw [h1, sizeK_app, sizeK]; omega
    repeat (first
      | refine SeqOk.pass ?_
      | (show _ ∧ _; exact ⟨rfl, rfl, rfl⟩)
      | refine wkT ?_
      | refine Bs.all ?_
      | (show RetOk _ _ _ _ _ _; refine RetOk.of (T := T) (RL.row rfl rfl LdN.hasBlk (by rfl) (RL.tmp rfl (RL.tmp rfl RL.nil))) ?_)
      | (show QOk _ _ _ _ _ _ _; refine QOk.build rfl rfl Nf.auto ?_)
      | (show OpOk _ _ _ _ _ _ _; first | refine opB (fun b => ?_) | refine opA (fun a' c' hc1 hc2 => ?_))
      | (show GJ _ _ _ _ _ _ _; first | refine GJ.t (by decide) ?_ | refine GJ.f (by decide) ?_ | refine GJ.ft (by decide) ?_ | refine GJ.ff (by decide) ?_)
      | (show Br _ _ _; first | refine Br.t (by decide) ?_ | refine Br.f (by decide) ?_)
      | (show GJ _ _ _ _ _ _ _; first | (apply GJ.and; exact rfl; intro hg) | (apply GJ.or; exact rfl; intro hg)))
    rw [Int.toNat_natCast]
    refine OpOk.loadRow rfl rfl (LdN.at hrs hvk) rfl ?_
    repeat (first
      | refine SeqOk.pass ?_
      | (show _ ∧ _; exact ⟨rfl, rfl, rfl⟩)
      | refine wkT ?_
      | refine Bs.all ?_
      | (show RetOk _ _ _ _ _ _; refine RetOk.of (T := T) (RL.row rfl rfl LdN.hasBlk (by rfl) (RL.tmp rfl (RL.tmp rfl RL.nil))) ?_)
      | (show QOk _ _ _ _ _ _ _; refine QOk.build rfl rfl Nf.auto ?_)
      | (show OpOk _ _ _ _ _ _ _; first | refine opB (fun b => ?_) | refine opA (fun a' c' hc1 hc2 => ?_))
      | (show GJ _ _ _ _ _ _ _; first | refine GJ.t (by decide) ?_ | refine GJ.f (by decide) ?_ | refine GJ.ft (by decide) ?_ | refine GJ.ff (by decide) ?_)
      | (show Br _ _ _; first | refine Br.t (by decide) ?_ | refine Br.f (by decide) ?_)
      | (show GJ _ _ _ _ _ _ _; first | (apply GJ.and; exact rfl; intro hg) | (apply GJ.or; exact rfl; intro hg)))
    refine (ih kd (List.mem_of_getElem? hkd)).run hvv (by omega) ?_
    repeat (first
      | refine SeqOk.pass ?_
      | (show _ ∧ _; exact ⟨rfl, rfl, rfl⟩)
      | refine wkT ?_
      | refine Bs.all ?_
      | (show RetOk _ _ _ _ _ _; refine RetOk.of (T := T) (RL.row rfl rfl LdN.hasBlk (by rfl) (RL.tmp rfl (RL.tmp rfl RL.nil))) ?_)
      | (show QOk _ _ _ _ _ _ _; refine QOk.build rfl rfl Nf.auto ?_)
      | (show OpOk _ _ _ _ _ _ _; first | refine opB (fun b => ?_) | refine opA (fun a' c' hc1 hc2 => ?_))
      | (show GJ _ _ _ _ _ _ _; first | refine GJ.t (by decide) ?_ | refine GJ.f (by decide) ?_ | refine GJ.ft (by decide) ?_ | refine GJ.ff (by decide) ?_)
      | (show Br _ _ _; first | refine Br.t (by decide) ?_ | refine Br.f (by decide) ?_)
      | (show GJ _ _ _ _ _ _ _; first | (apply GJ.and; exact rfl; intro hg) | (apply GJ.or; exact rfl; intro hg)))
    rw [show Max.max ((deepK (l.take i) : Nat) : Int) ((deepD kd : Nat) : Int) = ((deepK (l.take (i + 1)) : Nat) : Int) by rw [htk]; omega]
    refine Wk.id ⟨i + 1, ⟨rfl, ?_⟩, ?_, Sub.auto, Sup.auto⟩
    all_goals try dsimp only
    · omega
    · omega
  · obtain rfl : i = l.length := by omega
    rw [List.take_length]
    repeat (first
      | refine SeqOk.pass ?_
      | (show _ ∧ _; exact ⟨rfl, rfl, rfl⟩)
      | refine wkT ?_
      | refine Bs.all ?_
      | (show RetOk _ _ _ _ _ _; refine RetOk.of (T := T) (RL.row rfl rfl LdN.hasBlk (by rfl) (RL.tmp rfl (RL.tmp rfl RL.nil))) ?_)
      | (show QOk _ _ _ _ _ _ _; refine QOk.build rfl rfl Nf.auto ?_)
      | (show OpOk _ _ _ _ _ _ _; first | refine opB (fun b => ?_) | refine opA (fun a' c' hc1 hc2 => ?_))
      | (show GJ _ _ _ _ _ _ _; first | refine GJ.t (by decide) ?_ | refine GJ.f (by decide) ?_ | refine GJ.ft (by decide) ?_ | refine GJ.ff (by decide) ?_)
      | (show Br _ _ _; first | refine Br.t (by decide) ?_ | refine Br.f (by decide) ?_)
      | (show GJ _ _ _ _ _ _ _; first | (apply GJ.and; exact rfl; intro hg) | (apply GJ.or; exact rfl; intro hg)))
    exact Wk.outE Sup.auto (.refl _) hk (congrArg (Value.int .i64) (by push_cast; rfl))⟩
end Go.Proofs.YtkmblecapclkmaaDoor
