/- Contracts of the reference of lex: Scan. -/
import Derived.Test.YtocliedpgdfkoaaDoorLxH
namespace Go.Proofs.YtocliedpgdfkoaaDoor
open Go Go.E
set_option linter.unusedVariables false
set_option linter.unusedSimpArgs false
set_option maxRecDepth 10000
section
variable {ro : Ro} {own r : Chs} {K : Value → Ro → Chs → Prop} {g : Chunk → Chs}
set_option maxHeartbeats 4000000 in
theorem rscan_ok {tx : List UInt8} (hl : tx.length ≤ 100000)
    (hk : ∀ l a code a' c', scanD tx = (l, a, code) → l.length ≤ c' → c' ≤ maxLen → K (.tuple #[.slice a' l.length c', .int .i64 ((a : Nat) : Int), .int .i64 ((code : Nat) : Int)]) ro (.sl a' l.length c' 58 3 (toksV l) :: own)) :
    CallOk Tryd.prog 32 #[str tx] ro own K := by
  refine CallOk.intro (args := [_]) (rs := [_, _, _]) T_ok Tryd.func32 Tryd.call32 rfl rfl (by kernel_rfl) rfl rfl ?_
  by_cases hbig : 65536 < tx.length
  · have hk := hk [] 0 2 none 0 (by rw [scanD, if_pos hbig]) (by simp) (Nat.zero_le _)
    repeat (first
      | (show _ ∧ _; exact ⟨rfl, rfl, rfl⟩)
      | refine wkT ?_
      | refine Bs.all ?_
      | (show RetOk _ _ _ _ _ _; refine RetOk.of (T := T) (RL.row rfl rfl LdN.hasBlk (by rfl) (RL.tmp rfl (RL.tmp rfl RL.nil))) ?_)
      | (show QOk _ _ _ _ _ _ _; refine QOk.build rfl rfl Nf.auto ?_)
      | (show OpOk _ _ _ _ _ _ _; first | refine opB (fun b => ?_) | refine opA (fun a' c' hc1 hc2 => ?_))
      | (show GJ _ _ _ _ _ _ _; first | refine GJ.t (by decide) ?_ | refine GJ.f (by decide) ?_ | refine GJ.ft (by decide) ?_ | refine GJ.ff (by decide) ?_)
      | (show Br _ _ _; first | refine Br.t (by decide) ?_ | refine Br.f (by decide) ?_)
      | (show GJ _ _ _ _ _ _ _; first | (apply GJ.and; exact rfl; intro hg) | (apply GJ.or; exact rfl; intro hg)))
    exact Wk.outS (Sup.nilc Sup.auto) (.refl _) hk
  · have hsc : scanD tx = scanF (tx.length + 1) 0 [] tx := by rw [scanD, if_neg hbig]
    repeat (first
      | (show _ ∧ _; exact ⟨rfl, rfl, rfl⟩)
      | refine wkT ?_
      | refine Bs.all ?_
      | (show RetOk _ _ _ _ _ _; refine RetOk.of (T := T) (RL.row rfl rfl LdN.hasBlk (by rfl) (RL.tmp rfl (RL.tmp rfl RL.nil))) ?_)
      | (show QOk _ _ _ _ _ _ _; refine QOk.build rfl rfl Nf.auto ?_)
      | (show OpOk _ _ _ _ _ _ _; first | refine opB (fun b => ?_) | refine opA (fun a' c' hc1 hc2 => ?_))
      | (show GJ _ _ _ _ _ _ _; first | refine GJ.t (by decide) ?_ | refine GJ.f (by decide) ?_ | refine GJ.ft (by decide) ?_ | refine GJ.ff (by decide) ?_)
      | (show Br _ _ _; first | refine Br.t (by decide) ?_ | refine Br.f (by decide) ?_)
      | (show GJ _ _ _ _ _ _ _; first | (apply GJ.and; exact rfl; intro hg) | (apply GJ.or; exact rfl; intro hg)))
    refine LoopOk.at (ι := Nat × Nat × List TokD × Option Addr × Nat) Keep.auto (fun (k, a, o, ad, cp) => [(6, .int .i64 (a : Int)), (5, .slice ad o.length cp)]) (fun (k, a, o, ad, cp) => .sl ad o.length cp 58 3 (toksV o) :: own) (fun (k, a, o, ad, cp) => a ≤ tx.length ∧ o.length ≤ 8192 ∧ o.length ≤ cp ∧ cp ≤ maxLen ∧ tx.length - a < k ∧ scanF k a o (tx.drop a) = scanD tx) (fun (k, a, o, ad, cp) => tx.length + 1 - a) (tx.length + 1, 0, [], none, 0) ?_ Sub.auto (Sup.nilc Sup.auto) ?_
    · exact ⟨by omega, by simp, by simp, Nat.zero_le _, by omega, by rw [hsc]; rfl⟩
    rintro ⟨k, a, o, ad, cp⟩ ⟨i1, i2, i3, i4, i5, i6⟩
    dsimp only [List.cons_append, List.nil_append] at i1 i2 i3 i4 i5 i6 ⊢
    obtain ⟨k, rfl⟩ : ∃ j, k = j + 1 := ⟨k - 1, by omega⟩
    have hgl := gapD_le (tx.drop a) false
    rw [List.length_drop] at hgl
    rw [scanF] at i6
    have hdd : (tx.drop a).drop (gapD false (tx.drop a)) = tx.drop (a + gapD false (tx.drop a)) := by rw [List.drop_drop]
    rw [hdd] at i6
    repeat (first
      | (show _ ∧ _; exact ⟨rfl, rfl, rfl⟩)
      | refine wkT ?_
      | refine Bs.all ?_
      | (show RetOk _ _ _ _ _ _; refine RetOk.of (T := T) (RL.row rfl rfl LdN.hasBlk (by rfl) (RL.tmp rfl (RL.tmp rfl RL.nil))) ?_)
      | (show QOk _ _ _ _ _ _ _; refine QOk.build rfl rfl Nf.auto ?_)
      | (show OpOk _ _ _ _ _ _ _; first | refine opB (fun b => ?_) | refine opA (fun a' c' hc1 hc2 => ?_))
      | (show GJ _ _ _ _ _ _ _; first | refine GJ.t (by decide) ?_ | refine GJ.f (by decide) ?_ | refine GJ.ft (by decide) ?_ | refine GJ.ff (by decide) ?_)
      | (show Br _ _ _; first | refine Br.t (by decide) ?_ | refine Br.f (by decide) ?_)
      | (show GJ _ _ _ _ _ _ _; first | (apply GJ.and; exact rfl; intro hg) | (apply GJ.or; exact rfl; intro hg)))
    rw [Int.toNat_natCast a]
    refine rgap_ok (by rw [List.length_drop]; omega) ?_
    obtain ⟨gp, hgp⟩ : ∃ gp, gapD false (tx.drop a) = gp := ⟨_, rfl⟩
    rw [hgp] at i6 hgl ⊢
    have eag : ((a : Int) + (gp : Int)) = ((a + gp : Nat) : Int) := by omega
    by_cases hend : a + gp = tx.length
    · have h0 : tx.drop (a + gp) = [] := List.drop_eq_nil_of_le (by omega)
      rw [if_pos h0] at i6
      have hk := hk (o ++ [⟨5, a + gp, []⟩]) 0 0
      repeat (first
        | (show _ ∧ _; exact ⟨rfl, rfl, rfl⟩)
        | refine wkT ?_
        | refine Bs.all ?_
        | (show RetOk _ _ _ _ _ _; refine RetOk.of (T := T) (RL.row rfl rfl LdN.hasBlk (by rfl) (RL.tmp rfl (RL.tmp rfl RL.nil))) ?_)
        | (show QOk _ _ _ _ _ _ _; refine QOk.build rfl rfl Nf.auto ?_)
        | (show OpOk _ _ _ _ _ _ _; first | refine opB (fun b => ?_) | refine opA (fun a' c' hc1 hc2 => ?_))
        | (show GJ _ _ _ _ _ _ _; first | refine GJ.t (by decide) ?_ | refine GJ.f (by decide) ?_ | refine GJ.ft (by decide) ?_ | refine GJ.ff (by decide) ?_)
        | (show Br _ _ _; first | refine Br.t (by decide) ?_ | refine Br.f (by decide) ?_)
        | (show GJ _ _ _ _ _ _ _; first | (apply GJ.and; exact rfl; intro hg) | (apply GJ.or; exact rfl; intro hg)))
      have hk := hk a' c' i6.symm (by simp; exact hc1) hc2
      rw [toksV_snoc, List.length_append] at hk
      exact Wk.outS Sup.auto (.refl _) hk
    · have h0 : tx.drop (a + gp) ≠ [] := fun e => by
        have := congrArg List.length e
        rw [List.length_drop] at this
        simp at this
        omega
      rw [if_neg h0] at i6
      by_cases hmany : o.length = 8192
      · rw [if_pos hmany] at i6
        have hk := hk [] (a + gp) 2 none 0 i6.symm (by simp) (Nat.zero_le _)
        repeat (first
          | (show _ ∧ _; exact ⟨rfl, rfl, rfl⟩)
          | refine wkT ?_
          | refine Bs.all ?_
          | (show RetOk _ _ _ _ _ _; refine RetOk.of (T := T) (RL.row rfl rfl LdN.hasBlk (by rfl) (RL.tmp rfl (RL.tmp rfl RL.nil))) ?_)
          | (show QOk _ _ _ _ _ _ _; refine QOk.build rfl rfl Nf.auto ?_)
          | (show OpOk _ _ _ _ _ _ _; first | refine opB (fun b => ?_) | refine opA (fun a' c' hc1 hc2 => ?_))
          | (show GJ _ _ _ _ _ _ _; first | refine GJ.t (by decide) ?_ | refine GJ.f (by decide) ?_ | refine GJ.ft (by decide) ?_ | refine GJ.ff (by decide) ?_)
          | (show Br _ _ _; first | refine Br.t (by decide) ?_ | refine Br.f (by decide) ?_)
          | (show GJ _ _ _ _ _ _ _; first | (apply GJ.and; exact rfl; intro hg) | (apply GJ.or; exact rfl; intro hg)))
        exact Wk.outS (Sup.nilc Sup.auto) (.refl _) hk
      · rw [if_neg hmany] at i6
        repeat (first
          | (show _ ∧ _; exact ⟨rfl, rfl, rfl⟩)
          | refine wkT ?_
          | refine Bs.all ?_
          | (show RetOk _ _ _ _ _ _; refine RetOk.of (T := T) (RL.row rfl rfl LdN.hasBlk (by rfl) (RL.tmp rfl (RL.tmp rfl RL.nil))) ?_)
          | (show QOk _ _ _ _ _ _ _; refine QOk.build rfl rfl Nf.auto ?_)
          | (show OpOk _ _ _ _ _ _ _; first | refine opB (fun b => ?_) | refine opA (fun a' c' hc1 hc2 => ?_))
          | (show GJ _ _ _ _ _ _ _; first | refine GJ.t (by decide) ?_ | refine GJ.f (by decide) ?_ | refine GJ.ft (by decide) ?_ | refine GJ.ff (by decide) ?_)
          | (show Br _ _ _; first | refine Br.t (by decide) ?_ | refine Br.f (by decide) ?_)
          | (show GJ _ _ _ _ _ _ _; first | (apply GJ.and; exact rfl; intro hg) | (apply GJ.or; exact rfl; intro hg)))
        rw [eag, Int.toNat_natCast]
        refine rfront_ok h0 (by rw [List.length_drop]; omega) (fun kd w n code hf hn hkd hcd hcz => ?_)
        rw [hf] at i6
        rw [List.length_drop] at hn
        by_cases hc0 : code = 0
        · subst hc0
          rw [if_neg (by simp)] at i6
          dsimp only at i6
          rw [List.drop_drop] at i6
          have hn1 := hcz rfl
          repeat (first
            | (show _ ∧ _; exact ⟨rfl, rfl, rfl⟩)
            | refine wkT ?_
            | refine Bs.all ?_
            | (show RetOk _ _ _ _ _ _; refine RetOk.of (T := T) (RL.row rfl rfl LdN.hasBlk (by rfl) (RL.tmp rfl (RL.tmp rfl RL.nil))) ?_)
            | (show QOk _ _ _ _ _ _ _; refine QOk.build rfl rfl Nf.auto ?_)
            | (show OpOk _ _ _ _ _ _ _; first | refine opB (fun b => ?_) | refine opA (fun a' c' hc1 hc2 => ?_))
            | (show GJ _ _ _ _ _ _ _; first | refine GJ.t (by decide) ?_ | refine GJ.f (by decide) ?_ | refine GJ.ft (by decide) ?_ | refine GJ.ff (by decide) ?_)
            | (show Br _ _ _; first | refine Br.t (by decide) ?_ | refine Br.f (by decide) ?_)
            | (show GJ _ _ _ _ _ _ _; first | (apply GJ.and; exact rfl; intro hg) | (apply GJ.or; exact rfl; intro hg)))
          rw [show o.length + 1 = (o ++ [(⟨kd, a + gp, w⟩ : TokD)]).length by simp] at hc1 ⊢
          rw [show flat [.agg #[.int .i64 (kd : Int), .int .i64 ((a + gp : Nat) : Int), str w]] = TokD.v ⟨kd, a + gp, w⟩ from rfl, ← toksV_snoc]
          repeat (first
            | (show _ ∧ _; exact ⟨rfl, rfl, rfl⟩)
            | refine wkT ?_
            | (show OpOk _ _ _ _ _ _ _; first | refine opB (fun b => ?_) | refine opA (fun a' c' hc1 hc2 => ?_))
            | (show GJ _ _ _ _ _ _ _; first | (apply GJ.and; exact rfl; intro hg) | (apply GJ.or; exact rfl; intro hg)))
          refine Wk.id ⟨(k, a + gp + n, o ++ [⟨kd, a + gp, w⟩], a', c'), ⟨rfl, ?_⟩, ?_, Sub.auto, Sup.auto⟩
          all_goals try dsimp only
          · exact ⟨by omega, by simp; omega, hc1, by assumption, by omega, i6⟩
          · omega
        · rw [if_pos hc0] at i6
          have hk := hk [] (a + gp) code none 0 i6.symm (by simp) (Nat.zero_le _)
          repeat (first
            | (show _ ∧ _; exact ⟨rfl, rfl, rfl⟩)
            | refine wkT ?_
            | refine Bs.all ?_
            | (show RetOk _ _ _ _ _ _; refine RetOk.of (T := T) (RL.row rfl rfl LdN.hasBlk (by rfl) (RL.tmp rfl (RL.tmp rfl RL.nil))) ?_)
            | (show QOk _ _ _ _ _ _ _; refine QOk.build rfl rfl Nf.auto ?_)
            | (show OpOk _ _ _ _ _ _ _; first | refine opB (fun b => ?_) | refine opA (fun a' c' hc1 hc2 => ?_))
            | (show GJ _ _ _ _ _ _ _; first | refine GJ.t (by decide) ?_ | refine GJ.f (by decide) ?_ | refine GJ.ft (by decide) ?_ | refine GJ.ff (by decide) ?_)
            | (show Br _ _ _; first | refine Br.t (by decide) ?_ | refine Br.f (by decide) ?_)
            | (show GJ _ _ _ _ _ _ _; first | (apply GJ.and; exact rfl; intro hg) | (apply GJ.or; exact rfl; intro hg)))
          exact Wk.outS (Sup.nilc Sup.auto) (.refl _) hk
end
end Go.Proofs.YtocliedpgdfkoaaDoor
