/- Contracts of lex: Scan. -/
import Derived.Test.YtniofdklhlbphaaDoorLxE
namespace Go.Proofs.YtniofdklhlbphaaDoor
open Go Go.E
set_option linter.unusedVariables false
set_option linter.unusedSimpArgs false
set_option maxRecDepth 10000
structure TokD where
  kind : Nat
  a : Nat
  text : List UInt8
deriving DecidableEq
def TokD.v (t : TokD) : List Value := tokV t.kind t.a t.text
def toksV (l : List TokD) : List Value := l.flatMap TokD.v
theorem toksV_len (l : List TokD) : (toksV l).length = l.length * 3 := by
  induction l with
  | nil => rfl
  | cons t l ih => simp [toksV, TokD.v, tokV] at ih ⊢; omega
theorem toksV_snoc (l : List TokD) (t : TokD) : toksV (l ++ [t]) = toksV l ++ t.v := by simp [toksV]
theorem toksV_drop : ∀ (l : List TokD) (i : Nat) (t : TokD), l[i]? = some t → ((toksV l).drop (i * 3)).take 3 = t.v
  | [], i, t, h => by simp at h
  | x :: l, 0, t, h => by simp at h; subst h; rfl
  | x :: l, i + 1, t, h => by
    rw [show (i + 1) * 3 = 3 + i * 3 by omega]
    show List.take 3 (List.drop (3 + i * 3) (x.v ++ toksV l)) = _
    rw [← List.drop_drop, List.drop_left' (by rfl)]
    exact toksV_drop l i t (by simpa using h)
def scanF : Nat → Nat → List TokD → List UInt8 → List TokD × Nat × Nat
  | 0, _, _, _ => ([], 0, 0)
  | k + 1, a, out, l => if l.drop (gapD false l) = [] then (out ++ [⟨5, a + gapD false l, []⟩], 0, 0)
    else if out.length = 8192 then ([], a + gapD false l, 2)
    else if (frontD (l.drop (gapD false l))).2.2.2 ≠ 0 then ([], a + gapD false l, (frontD (l.drop (gapD false l))).2.2.2)
    else scanF k (a + gapD false l + (frontD (l.drop (gapD false l))).2.2.1) (out ++ [⟨(frontD (l.drop (gapD false l))).1, a + gapD false l, (frontD (l.drop (gapD false l))).2.1⟩]) ((l.drop (gapD false l)).drop (frontD (l.drop (gapD false l))).2.2.1)
def scanD (tx : List UInt8) : List TokD × Nat × Nat := if 65536 < tx.length then ([], 0, 2) else scanF (tx.length + 1) 0 [] tx
def faultV (code a : Nat) : Value := .agg #[.int .i64 (code : Int), .int .i64 (a : Int)]
section
variable {ro : Ro} {own r : Chs} {K : Value → Ro → Chs → Prop} {g : Chunk → Chs}
set_option maxHeartbeats 4000000 in
theorem scan_ok {tx : List UInt8} (hS : SpOk ro) (hl : tx.length ≤ 100000)
    (hk : ∀ l a code a' c', scanD tx = (l, a, code) → l.length ≤ 8193 → code ≤ 1000 → a ≤ tx.length → l.length ≤ c' → c' ≤ maxLen → K (.tuple #[.slice a' l.length c', faultV code a]) ro (.sl a' l.length c' 72 3 (toksV l) :: own)) :
    CallOk Tryd.prog 10 #[str tx] ro own K := by
  refine CallOk.intro (args := [_]) (rs := [_, _]) T_ok Tryd.func10 Tryd.call10 rfl rfl (by kernel_rfl) rfl rfl ?_
  by_cases hbig : 65536 < tx.length
  · have hk := hk [] 0 2 none 0 (by rw [scanD, if_pos hbig]) (by simp) (by omega) (by omega) (by simp) (Nat.zero_le _)
    repeat (first
      | (show _ ∧ _; exact ⟨rfl, rfl, rfl⟩)
      | refine wkT ?_
      | refine Bs.all ?_
      | (show RetOk _ _ _ _ _ _; refine RetOk.of (T := T) (RL.row rfl rfl LdN.hasBlk (by rfl) (RL.tmp rfl (RL.tmp rfl RL.nil))) ?_)
      | (show QOk _ _ _ _ _ _ _; refine QOk.build rfl rfl Nf.auto ?_)
      | (show OpOk _ _ _ _ _ _ _; first | refine opB (fun b => ?_) | refine opA (fun a' c' hc1 hc2 => ?_))
      | (show GJ _ _ _ _ _ _ _; first | refine GJ.t (by decide) ?_ | refine GJ.f (by decide) ?_ | refine GJ.ft (by decide) ?_ | refine GJ.ff (by decide) ?_)
      | (show Br _ _ _; first | refine Br.t (by decide) ?_ | refine Br.f (by decide) ?_)
      | (show GJ _ _ _ _ _ _ _; first | (apply GJ.and; exact rfl; intro hg) | (apply GJ.or; exact rfl; intro hg)))
    exact Wk.outS (Sup.nilc Sup.auto) (.refl _) hk
  · have hsc : scanD tx = scanF (tx.length + 1) 0 [] tx := by rw [scanD, if_neg hbig]
    repeat (first
      | (show _ ∧ _; exact ⟨rfl, rfl, rfl⟩)
      | refine wkT ?_
      | refine Bs.all ?_
      | (show RetOk _ _ _ _ _ _; refine RetOk.of (T := T) (RL.row rfl rfl LdN.hasBlk (by rfl) (RL.tmp rfl (RL.tmp rfl RL.nil))) ?_)
      | (show QOk _ _ _ _ _ _ _; refine QOk.build rfl rfl Nf.auto ?_)
      | (show OpOk _ _ _ _ _ _ _; first | refine opB (fun b => ?_) | refine opA (fun a' c' hc1 hc2 => ?_))
      | (show GJ _ _ _ _ _ _ _; first | refine GJ.t (by decide) ?_ | refine GJ.f (by decide) ?_ | refine GJ.ft (by decide) ?_ | refine GJ.ff (by decide) ?_)
      | (show Br _ _ _; first | refine Br.t (by decide) ?_ | refine Br.f (by decide) ?_)
      | (show GJ _ _ _ _ _ _ _; first | (apply GJ.and; exact rfl; intro hg) | (apply GJ.or; exact rfl; intro hg)))
    obtain ⟨q, hq⟩ : ∃ q : Nat, q = b := ⟨_, rfl⟩
    subst hq
    obtain ⟨bf, hbf⟩ : ∃ x : Nat, x = b := ⟨_, rfl⟩
    subst hbf
    refine LoopOk.at (ι := Nat × Nat × List TokD × Option Addr × Nat) Keep.auto (fun (k, a, o, ad, cp) => []) (fun (k, a, o, ad, cp) => .sl ad o.length cp 72 3 (toksV o) :: .blk q 77 [str tx, .int .i64 (a : Int), .slice ad o.length cp] :: .blk bf 26 [.int .i64 0, .int .i64 0] :: own) (fun (k, a, o, ad, cp) => a ≤ tx.length ∧ o.length ≤ 8192 ∧ o.length ≤ cp ∧ cp ≤ maxLen ∧ tx.length - a < k ∧ scanF k a o (tx.drop a) = scanD tx) (fun (k, a, o, ad, cp) => tx.length + 1 - a) (tx.length + 1, 0, [], none, 0) ?_ Sub.auto (Sup.nilc Sup.auto) ?_
    · exact ⟨by omega, by simp, by simp, Nat.zero_le _, by omega, by rw [hsc]; rfl⟩
    rintro ⟨k, a, o, ad, cp⟩ ⟨i1, i2, i3, i4, i5, i6⟩
    dsimp only [List.cons_append, List.nil_append] at i1 i2 i3 i4 i5 i6 ⊢
    obtain ⟨k, rfl⟩ : ∃ j, k = j + 1 := ⟨k - 1, by omega⟩
    have hgl := gapD_le (tx.drop a) false
    rw [List.length_drop] at hgl
    rw [scanF] at i6
    have hdd : (tx.drop a).drop (gapD false (tx.drop a)) = tx.drop (a + gapD false (tx.drop a)) := by rw [List.drop_drop]
    rw [hdd] at i6
    repeat (first
      | (show _ ∧ _; exact ⟨rfl, rfl, rfl⟩)
      | refine wkT ?_
      | refine Bs.all ?_
      | (show RetOk _ _ _ _ _ _; refine RetOk.of (T := T) (RL.row rfl rfl LdN.hasBlk (by rfl) (RL.tmp rfl (RL.tmp rfl RL.nil))) ?_)
      | (show QOk _ _ _ _ _ _ _; refine QOk.build rfl rfl Nf.auto ?_)
      | (show OpOk _ _ _ _ _ _ _; first | refine opB (fun b => ?_) | refine opA (fun a' c' hc1 hc2 => ?_))
      | (show GJ _ _ _ _ _ _ _; first | refine GJ.t (by decide) ?_ | refine GJ.f (by decide) ?_ | refine GJ.ft (by decide) ?_ | refine GJ.ff (by decide) ?_)
      | (show Br _ _ _; first | refine Br.t (by decide) ?_ | refine Br.f (by decide) ?_)
      | (show GJ _ _ _ _ _ _ _; first | (apply GJ.and; exact rfl; intro hg) | (apply GJ.or; exact rfl; intro hg)))
    refine CallOk.sup (own0 := .blk q 77 [str tx, .int .i64 (a : Int), .slice ad o.length cp] :: .sl ad o.length cp 72 3 (toksV o) :: .blk bf 26 [.int .i64 0, .int .i64 0] :: own) Sup.auto ?_
    refine gap_ok i1 hl ?_
    obtain ⟨a2, ha2⟩ : ∃ a2, a + gapD false (tx.drop a) = a2 := ⟨_, rfl⟩
    rw [ha2] at i6 ⊢
    by_cases hend : a2 = tx.length
    · have h0 : tx.drop a2 = [] := List.drop_eq_nil_of_le (by omega)
      rw [if_pos h0] at i6
      have hk := hk (o ++ [⟨5, a2, []⟩]) 0 0
      repeat (first
        | (show _ ∧ _; exact ⟨rfl, rfl, rfl⟩)
        | refine wkT ?_
        | (show OpOk _ _ _ _ _ _ _; first | refine opB (fun b => ?_) | refine opA (fun a' c' hc1 hc2 => ?_))
        | (show GJ _ _ _ _ _ _ _; first | (apply GJ.and; exact rfl; intro hg) | (apply GJ.or; exact rfl; intro hg)))
      refine Bs.mk ⟨[.blk q 77 [str tx, .int .i64 (a2 : Int), .slice ad o.length cp]], Sup.auto, ?_⟩
      repeat (first
        | (show _ ∧ _; exact ⟨rfl, rfl, rfl⟩)
        | refine wkU ?_
        | (show QOk _ _ _ _ _ _ _; refine QOk.build rfl rfl Nf.auto ?_)
        | (show GJ _ _ _ _ _ _ _; first | with_reducible refine GJ.neF ?_ | with_reducible refine GJ.neT ?_)
        | (show Br _ _ _; with_reducible refine Br.ne ?_)
        | (show OpOk _ _ _ _ _ _ _; first | refine opB (fun b => ?_) | refine opA (fun a' c' hc1 hc2 => ?_))
        | (show GJ _ _ _ _ _ _ _; first | (apply GJ.and; exact rfl; intro hg) | (apply GJ.or; exact rfl; intro hg)))
      have hk := hk a' c' i6.symm (by simp; omega) (by omega) (by omega) (by simp; exact hc1) hc2
      rw [toksV_snoc, List.length_append] at hk
      exact Wk.outS Sup.auto (.refl _) hk
    · have h0 : tx.drop a2 ≠ [] := fun e => by
        have := congrArg List.length e
        rw [List.length_drop] at this
        simp at this
        omega
      rw [if_neg h0] at i6
      by_cases hmany : o.length = 8192
      · rw [if_pos hmany] at i6
        have hk := hk [] a2 2 none 0 i6.symm (by simp) (by omega) (by omega) (by simp) (Nat.zero_le _)
        repeat (first
          | (show _ ∧ _; exact ⟨rfl, rfl, rfl⟩)
          | refine wkT ?_
          | refine Bs.all ?_
          | (show RetOk _ _ _ _ _ _; refine RetOk.of (T := T) (RL.row rfl rfl LdN.hasBlk (by rfl) (RL.tmp rfl (RL.tmp rfl RL.nil))) ?_)
          | (show QOk _ _ _ _ _ _ _; refine QOk.build rfl rfl Nf.auto ?_)
          | (show OpOk _ _ _ _ _ _ _; first | refine opB (fun b => ?_) | refine opA (fun a' c' hc1 hc2 => ?_))
          | (show GJ _ _ _ _ _ _ _; first | refine GJ.t (by decide) ?_ | refine GJ.f (by decide) ?_ | refine GJ.ft (by decide) ?_ | refine GJ.ff (by decide) ?_)
          | (show Br _ _ _; first | refine Br.t (by decide) ?_ | refine Br.f (by decide) ?_)
          | (show GJ _ _ _ _ _ _ _; first | (apply GJ.and; exact rfl; intro hg) | (apply GJ.or; exact rfl; intro hg)))
        exact Wk.outS (Sup.nilc Sup.auto) (.refl _) hk
      · rw [if_neg hmany] at i6
        repeat (first
          | (show _ ∧ _; exact ⟨rfl, rfl, rfl⟩)
          | refine wkT ?_
          | refine Bs.all ?_
          | (show RetOk _ _ _ _ _ _; refine RetOk.of (T := T) (RL.row rfl rfl LdN.hasBlk (by rfl) (RL.tmp rfl (RL.tmp rfl RL.nil))) ?_)
          | (show QOk _ _ _ _ _ _ _; refine QOk.build rfl rfl Nf.auto ?_)
          | (show OpOk _ _ _ _ _ _ _; first | refine opB (fun b => ?_) | refine opA (fun a' c' hc1 hc2 => ?_))
          | (show GJ _ _ _ _ _ _ _; first | refine GJ.t (by decide) ?_ | refine GJ.f (by decide) ?_ | refine GJ.ft (by decide) ?_ | refine GJ.ff (by decide) ?_)
          | (show Br _ _ _; first | refine Br.t (by decide) ?_ | refine Br.f (by decide) ?_)
          | (show GJ _ _ _ _ _ _ _; first | (apply GJ.and; exact rfl; intro hg) | (apply GJ.or; exact rfl; intro hg)))
        refine CallOk.sup (own0 := .blk q 77 [str tx, .int .i64 (a2 : Int), .slice ad o.length cp] :: .sl ad o.length cp 72 3 (toksV o) :: .blk bf 26 [.int .i64 0, .int .i64 0] :: own) Sup.auto ?_
        refine next_ok hS (by omega) hl (fun kd w n hf hn1 hn2 => ?_) (fun code hf hc1 hc2 a3 ha3 => ?_)
        · rw [hf] at i6
          rw [if_neg (by simp)] at i6
          dsimp only at i6
          rw [List.drop_drop] at i6
          repeat (first
            | (show _ ∧ _; exact ⟨rfl, rfl, rfl⟩)
            | refine wkT ?_
            | (show OpOk _ _ _ _ _ _ _; first | refine opB (fun b => ?_) | refine opA (fun a' c' hc1 hc2 => ?_))
            | (show GJ _ _ _ _ _ _ _; first | (apply GJ.and; exact rfl; intro hg) | (apply GJ.or; exact rfl; intro hg)))
          refine Bs.mk ⟨[.blk b 72 (tokV kd 0 w), .blk q 77 [str tx, .int .i64 ((a2 + n : Nat) : Int), .slice ad o.length cp]], Sup.auto, ?_⟩
          repeat (first
            | (show _ ∧ _; exact ⟨rfl, rfl, rfl⟩)
            | refine wkU ?_
            | (show QOk _ _ _ _ _ _ _; refine QOk.build rfl rfl Nf.auto ?_)
            | (show GJ _ _ _ _ _ _ _; first | with_reducible refine GJ.neF ?_ | with_reducible refine GJ.neT ?_)
            | (show Br _ _ _; with_reducible refine Br.ne ?_)
            | (show OpOk _ _ _ _ _ _ _; first | refine opB (fun b => ?_) | refine opA (fun a' c' hc1 hc2 => ?_))
            | (show GJ _ _ _ _ _ _ _; first | (apply GJ.and; exact rfl; intro hg) | (apply GJ.or; exact rfl; intro hg)))
          rw [show o.length + 1 = (o ++ [(⟨kd, a2, w⟩ : TokD)]).length by simp] at hc1 ⊢
          rw [show flat [.agg #[.int .i64 (kd : Int), .int .i64 (a2 : Int), str w]] = TokD.v ⟨kd, a2, w⟩ from rfl, ← toksV_snoc]
          repeat (first
            | (show _ ∧ _; exact ⟨rfl, rfl, rfl⟩)
            | refine wkT ?_
            | (show OpOk _ _ _ _ _ _ _; first | refine opB (fun b => ?_) | refine opA (fun a' c' hc1 hc2 => ?_))
            | (show GJ _ _ _ _ _ _ _; first | (apply GJ.and; exact rfl; intro hg) | (apply GJ.or; exact rfl; intro hg)))
          refine Wk.id ⟨(k, a2 + n, o ++ [⟨kd, a2, w⟩], a', c'), ⟨rfl, ?_⟩, ?_, Sub.auto, Sup.auto⟩
          all_goals try dsimp only
          · exact ⟨hn1, by simp; omega, hc1, hc2, by omega, i6⟩
          · omega
        · rw [hf] at i6
          rw [if_pos hc1] at i6
          have hk := hk [] a2 code none 0 i6.symm (by simp) hc2 (by omega) (by simp) (Nat.zero_le _)
          repeat (first
            | (show _ ∧ _; exact ⟨rfl, rfl, rfl⟩)
            | refine wkT ?_
            | refine Bs.all ?_
            | (show RetOk _ _ _ _ _ _; refine RetOk.of (T := T) (RL.row rfl rfl LdN.hasBlk (by rfl) (RL.tmp rfl (RL.tmp rfl RL.nil))) ?_)
            | (show QOk _ _ _ _ _ _ _; refine QOk.build rfl rfl Nf.auto ?_)
            | (show OpOk _ _ _ _ _ _ _; first | refine opB (fun b => ?_) | refine opA (fun a' c' hc1 hc2 => ?_))
            | (show GJ _ _ _ _ _ _ _; first | refine GJ.t (by decide) ?_ | refine GJ.f (by decide) ?_ | refine GJ.ft (by decide) ?_ | refine GJ.ff (by decide) ?_)
            | (show Br _ _ _; first | refine Br.t (by decide) ?_ | refine Br.f (by decide) ?_)
            | (show GJ _ _ _ _ _ _ _; first | (apply GJ.and; exact rfl; intro hg) | (apply GJ.or; exact rfl; intro hg)))
          exact Wk.outS (Sup.nilc Sup.auto) (.refl _) hk
end
end Go.Proofs.YtniofdklhlbphaaDoor
