/- Contracts: strings.Join with a blank. -/
import Derived.Test.YtniofdklhlbphaaDoorLxJ
import Derived.Test.YtniofdklhlbphaaDoorEn3
namespace Go.Proofs.YtniofdklhlbphaaDoor
open Go Go.E
set_option linter.unusedVariables false
set_option linter.unusedSimpArgs false
set_option maxRecDepth 10000
/-- The sum of the texts' lengths. -/
def sumL (l : List (List UInt8)) : Nat := (l.map List.length).sum
theorem sumL_take {l : List (List UInt8)} {i : Nat} (h : i < l.length) : sumL (l.take (i + 1)) = sumL (l.take i) + (l[i]'h).length := by
  rw [sumL, sumL, List.take_succ_eq_append_getElem h, List.map_append, List.sum_append]; rfl
theorem sumL_take_le (l : List (List UInt8)) (i : Nat) : sumL (l.take i) ≤ sumL l := by
  have e : sumL (l.take i ++ l.drop i) = sumL (l.take i) + sumL (l.drop i) := by rw [sumL, List.map_append, List.sum_append]; rfl
  rw [List.take_append_drop] at e
  omega
theorem sumL_get_le {l : List (List UInt8)} {i : Nat} (h : i < l.length) : (l[i]'h).length ≤ sumL l := by
  have h1 := sumL_take h
  have h2 := sumL_take_le l (i + 1)
  omega
theorem joinD_snoc {l : List (List UInt8)} (h : l ≠ []) (y : List UInt8) : joinD (l ++ [y]) = joinD l ++ 32 :: y := by
  cases l with
  | nil => exact absurd rfl h
  | cons x r => simp [joinD]
theorem joinD_take {l : List (List UInt8)} {i : Nat} (h : i < l.length) (h0 : 0 < i) : joinD (l.take (i + 1)) = joinD (l.take i) ++ 32 :: l[i]'h := by
  rw [List.take_succ_eq_append_getElem h, joinD_snoc]
  intro e
  have := congrArg List.length e
  rw [List.length_take, List.length_nil] at this
  omega
theorem joinD_len : ∀ l : List (List UInt8), (joinD l).length ≤ sumL l + l.length
  | [] => by simp [joinD]
  | x :: r => by
    have : ∀ r : List (List UInt8), (r.flatMap (fun y => 32 :: y)).length = sumL r + r.length := fun r => by
      induction r with
      | nil => rfl
      | cons y r ih => rw [List.flatMap_cons, List.length_append, ih]; simp [sumL]; omega
    rw [joinD, List.length_append, this]; simp [sumL]; omega
section
variable {ro : Ro} {own r : Chs} {K : Value → Ro → Chs → Prop} {g : Chunk → Chs}
set_option maxHeartbeats 4000000 in
theorem sjoin_ok {a : Option Addr} {n c : Nat} {l : List (List UInt8)} (hn : n = l.length) (hnc : n ≤ c) (hcm : c ≤ maxLen) (hs : sumL l + l.length ≤ 50000) (hk : K (str (joinD l)) ro (.sl a n c 9 1 (l.map str) :: r)) :
    CallOk Tryd.prog 24 #[.slice a n c, str [32]] ro (.sl a n c 9 1 (l.map str) :: r) K := by
  subst hn
  have h1 : ([32] : List UInt8).length = 1 := rfl
  refine CallOk.intro (args := [_, _]) (rs := [_]) T_ok Tryd.func24 Tryd.call24 rfl rfl (by kernel_rfl) rfl rfl ?_
  by_cases h0 : l.length = 0
  · obtain rfl := List.eq_nil_of_length_eq_zero h0
    repeat (first
      | (show _ ∧ _; exact ⟨rfl, rfl, rfl⟩)
      | refine wkT ?_
      | refine Bs.all ?_
      | (show RetOk _ _ _ _ _ _; refine RetOk.of (T := T) (RL.row rfl rfl LdN.hasBlk (by rfl) (RL.tmp rfl (RL.tmp rfl RL.nil))) ?_)
      | (show QOk _ _ _ _ _ _ _; refine QOk.build rfl rfl Nf.auto ?_)
      | (show OpOk _ _ _ _ _ _ _; first | refine opB (fun b => ?_) | refine opA (fun a' c' hc1 hc2 => ?_))
      | (show GJ _ _ _ _ _ _ _; first | refine GJ.t (by decide) ?_ | refine GJ.f (by decide) ?_ | refine GJ.ft (by decide) ?_ | refine GJ.ff (by decide) ?_)
      | (show Br _ _ _; first | refine Br.t (by decide) ?_ | refine Br.f (by decide) ?_)
      | (show GJ _ _ _ _ _ _ _; first | (apply GJ.and; exact rfl; intro hg) | (apply GJ.or; exact rfl; intro hg)))
    exact Wk.outS Sup.auto (.refl _) hk
  by_cases h2 : l.length = 1
  · obtain ⟨x, rfl⟩ := List.length_eq_one_iff.mp h2
    repeat (first
      | (show _ ∧ _; exact ⟨rfl, rfl, rfl⟩)
      | refine wkT ?_
      | refine Bs.all ?_
      | (show RetOk _ _ _ _ _ _; refine RetOk.of (T := T) (RL.row rfl rfl LdN.hasBlk (by rfl) (RL.tmp rfl (RL.tmp rfl RL.nil))) ?_)
      | (show QOk _ _ _ _ _ _ _; refine QOk.build rfl rfl Nf.auto ?_)
      | (show OpOk _ _ _ _ _ _ _; first | refine opB (fun b => ?_) | refine opA (fun a' c' hc1 hc2 => ?_))
      | (show GJ _ _ _ _ _ _ _; first | refine GJ.t (by decide) ?_ | refine GJ.f (by decide) ?_ | refine GJ.ft (by decide) ?_ | refine GJ.ff (by decide) ?_)
      | (show Br _ _ _; first | refine Br.t (by decide) ?_ | refine Br.f (by decide) ?_)
      | (show GJ _ _ _ _ _ _ _; first | (apply GJ.and; exact rfl; intro hg) | (apply GJ.or; exact rfl; intro hg)))
    have e : joinD [x] = x := by simp [joinD]
    rw [e] at hk
    exact Wk.outV Sup.auto hk rfl
  repeat (first
    | (show _ ∧ _; exact ⟨rfl, rfl, rfl⟩)
    | refine wkT ?_
    | refine Bs.all ?_
    | (show RetOk _ _ _ _ _ _; refine RetOk.of (T := T) (RL.row rfl rfl LdN.hasBlk (by rfl) (RL.tmp rfl (RL.tmp rfl RL.nil))) ?_)
    | (show QOk _ _ _ _ _ _ _; refine QOk.build rfl rfl Nf.auto ?_)
    | (show OpOk _ _ _ _ _ _ _; first | refine opB (fun b => ?_) | refine opA (fun a' c' hc1 hc2 => ?_))
    | (show GJ _ _ _ _ _ _ _; first | refine GJ.t (by decide) ?_ | refine GJ.f (by decide) ?_ | refine GJ.ft (by decide) ?_ | refine GJ.ff (by decide) ?_)
    | (show Br _ _ _; first | refine Br.t (by decide) ?_ | refine Br.f (by decide) ?_)
    | (show GJ _ _ _ _ _ _ _; first | (apply GJ.and; exact rfl; intro hg) | (apply GJ.or; exact rfl; intro hg)))
  refine SeqOk.pass ?_
  repeat (first
    | (show _ ∧ _; exact ⟨rfl, rfl, rfl⟩)
    | refine wkT ?_
    | refine Bs.all ?_
    | (show RetOk _ _ _ _ _ _; refine RetOk.of (T := T) (RL.row rfl rfl LdN.hasBlk (by rfl) (RL.tmp rfl (RL.tmp rfl RL.nil))) ?_)
    | (show QOk _ _ _ _ _ _ _; refine QOk.build rfl rfl Nf.auto ?_)
    | (show OpOk _ _ _ _ _ _ _; first | refine opB (fun b => ?_) | refine opA (fun a' c' hc1 hc2 => ?_))
    | (show GJ _ _ _ _ _ _ _; first | refine GJ.t (by decide) ?_ | refine GJ.f (by decide) ?_ | refine GJ.ft (by decide) ?_ | refine GJ.ff (by decide) ?_)
    | (show Br _ _ _; first | refine Br.t (by decide) ?_ | refine Br.f (by decide) ?_)
    | (show GJ _ _ _ _ _ _ _; first | (apply GJ.and; exact rfl; intro hg) | (apply GJ.or; exact rfl; intro hg)))
  refine SeqOk.pass ?_
  repeat (first
    | (show _ ∧ _; exact ⟨rfl, rfl, rfl⟩)
    | refine wkT ?_
    | refine Bs.all ?_
    | (show RetOk _ _ _ _ _ _; refine RetOk.of (T := T) (RL.row rfl rfl LdN.hasBlk (by rfl) (RL.tmp rfl (RL.tmp rfl RL.nil))) ?_)
    | (show QOk _ _ _ _ _ _ _; refine QOk.build rfl rfl Nf.auto ?_)
    | (show OpOk _ _ _ _ _ _ _; first | refine opB (fun b => ?_) | refine opA (fun a' c' hc1 hc2 => ?_))
    | (show GJ _ _ _ _ _ _ _; first | refine GJ.t (by decide) ?_ | refine GJ.f (by decide) ?_ | refine GJ.ft (by decide) ?_ | refine GJ.ff (by decide) ?_)
    | (show Br _ _ _; first | refine Br.t (by decide) ?_ | refine Br.f (by decide) ?_)
    | (show GJ _ _ _ _ _ _ _; first | (apply GJ.and; exact rfl; intro hg) | (apply GJ.or; exact rfl; intro hg)))
  have hq1 : (9223372036854775807 : Int) / ((l.length : Int) - 1) ≤ 9223372036854775807 := Int.ediv_le_self _ (by omega)
  have hq2 : (100 : Int) ≤ 9223372036854775807 / ((l.length : Int) - 1) := Int.le_ediv_of_mul_le (by omega) (by omega)
  refine ⟨⟨by omega, by omega, hq1⟩, ?_⟩
  repeat (first
    | (show _ ∧ _; exact ⟨rfl, rfl, rfl⟩)
    | refine wkT ?_
    | refine Bs.all ?_
    | (show RetOk _ _ _ _ _ _; refine RetOk.of (T := T) (RL.row rfl rfl LdN.hasBlk (by rfl) (RL.tmp rfl (RL.tmp rfl RL.nil))) ?_)
    | (show QOk _ _ _ _ _ _ _; refine QOk.build rfl rfl Nf.auto ?_)
    | (show OpOk _ _ _ _ _ _ _; first | refine opB (fun b => ?_) | refine opA (fun a' c' hc1 hc2 => ?_))
    | (show GJ _ _ _ _ _ _ _; first | refine GJ.t (by decide) ?_ | refine GJ.f (by decide) ?_ | refine GJ.ft (by decide) ?_ | refine GJ.ff (by decide) ?_)
    | (show Br _ _ _; first | refine Br.t (by decide) ?_ | refine Br.f (by decide) ?_)
    | (show GJ _ _ _ _ _ _ _; first | (apply GJ.and; exact rfl; intro hg) | (apply GJ.or; exact rfl; intro hg)))
  have hm : ((([32] : List UInt8).length : Nat) : Int) * ((l.length : Int) - 1) = (l.length : Int) - 1 := by simp
  rw [hm]
  refine ⟨by omega, ?_⟩
  try rw [hm]
  repeat (first
    | (show _ ∧ _; exact ⟨rfl, rfl, rfl⟩)
    | refine wkT ?_
    | refine Bs.all ?_
    | (show RetOk _ _ _ _ _ _; refine RetOk.of (T := T) (RL.row rfl rfl LdN.hasBlk (by rfl) (RL.tmp rfl (RL.tmp rfl RL.nil))) ?_)
    | (show QOk _ _ _ _ _ _ _; refine QOk.build rfl rfl Nf.auto ?_)
    | (show OpOk _ _ _ _ _ _ _; first | refine opB (fun b => ?_) | refine opA (fun a' c' hc1 hc2 => ?_))
    | (show GJ _ _ _ _ _ _ _; first | refine GJ.t (by decide) ?_ | refine GJ.f (by decide) ?_ | refine GJ.ft (by decide) ?_ | refine GJ.ff (by decide) ?_)
    | (show Br _ _ _; first | refine Br.t (by decide) ?_ | refine Br.f (by decide) ?_)
    | (show GJ _ _ _ _ _ _ _; first | (apply GJ.and; exact rfl; intro hg) | (apply GJ.or; exact rfl; intro hg)))
  refine LoopOk.at (ι := Nat × Int) Keep.auto (fun (i, s) => [(41, .int .i64 (i : Int)), (5, .int .i64 s)]) (fun (i, s) => .sl a l.length c 9 1 (l.map str) :: r) (fun (i, s) => i ≤ l.length ∧ s = (l.length : Int) - 1 + ((sumL (l.take i) : Nat) : Int)) (fun (i, s) => l.length - i) (0, (0 : Int) + ((l.length : Int) - 1)) ?_ Sub.auto Sup.auto ?_
  · exact ⟨by omega, by simp [sumL]⟩
  rintro ⟨i, s⟩ ⟨i1, i2⟩
  dsimp only [List.cons_append, List.nil_append] at i1 i2 ⊢
  have hle := sumL_take_le l i
  by_cases hi : i < l.length
  · have hst := sumL_take hi
    have hgl := sumL_get_le hi
    have eg : l[((i : Int)).toNat]! = l[i] := by simp [hi]
    rw [← eg] at hst hgl
    obtain ⟨y, hy⟩ : ∃ y, l[((i : Int)).toNat]! = y := ⟨_, rfl⟩
    rw [hy] at hst hgl
    repeat (first
      | (show _ ∧ _; exact ⟨rfl, rfl, rfl⟩)
      | refine wkT ?_
      | refine Bs.all ?_
      | (show RetOk _ _ _ _ _ _; refine RetOk.of (T := T) (RL.row rfl rfl LdN.hasBlk (by rfl) (RL.tmp rfl (RL.tmp rfl RL.nil))) ?_)
      | (show QOk _ _ _ _ _ _ _; refine QOk.build rfl rfl Nf.auto ?_)
      | (show OpOk _ _ _ _ _ _ _; first | refine opB (fun b => ?_) | refine opA (fun a' c' hc1 hc2 => ?_))
      | (show GJ _ _ _ _ _ _ _; first | refine GJ.t (by decide) ?_ | refine GJ.f (by decide) ?_ | refine GJ.ft (by decide) ?_ | refine GJ.ff (by decide) ?_)
      | (show Br _ _ _; first | refine Br.t (by decide) ?_ | refine Br.f (by decide) ?_)
      | (show GJ _ _ _ _ _ _ _; first | (apply GJ.and; exact rfl; intro hg) | (apply GJ.or; exact rfl; intro hg)))
    refine SeqOk.pass ?_
    rw [hy]
    repeat (first
      | (show _ ∧ _; exact ⟨rfl, rfl, rfl⟩)
      | refine wkT ?_
      | refine Bs.all ?_
      | (show RetOk _ _ _ _ _ _; refine RetOk.of (T := T) (RL.row rfl rfl LdN.hasBlk (by rfl) (RL.tmp rfl (RL.tmp rfl RL.nil))) ?_)
      | (show QOk _ _ _ _ _ _ _; refine QOk.build rfl rfl Nf.auto ?_)
      | (show OpOk _ _ _ _ _ _ _; first | refine opB (fun b => ?_) | refine opA (fun a' c' hc1 hc2 => ?_))
      | (show GJ _ _ _ _ _ _ _; first | refine GJ.t (by decide) ?_ | refine GJ.f (by decide) ?_ | refine GJ.ft (by decide) ?_ | refine GJ.ff (by decide) ?_)
      | (show Br _ _ _; first | refine Br.t (by decide) ?_ | refine Br.f (by decide) ?_)
      | (show GJ _ _ _ _ _ _ _; first | (apply GJ.and; exact rfl; intro hg) | (apply GJ.or; exact rfl; intro hg)))
    refine Wk.id ⟨(i + 1, s + ((y.length : Nat) : Int)), ⟨rfl, ?_⟩, ?_, Sub.auto, Sup.auto⟩
    all_goals try dsimp only
    · exact ⟨by omega, by omega⟩
    · omega
  · obtain rfl : i = l.length := by omega
    rw [List.take_length] at i2
    obtain ⟨N, rfl⟩ : ∃ N : Nat, s = (N : Int) := ⟨(l.length - 1) + sumL l, by omega⟩
    obtain ⟨x, m, rfl⟩ : ∃ x m, l = x :: m := by
      cases l with
      | nil => simp at h0
      | cons x m => exact ⟨x, m, rfl⟩
    have hxl : x.length ≤ sumL (x :: m) := sumL_get_le (l := x :: m) (i := 0) (Nat.succ_pos _)
    repeat (first
      | (show _ ∧ _; exact ⟨rfl, rfl, rfl⟩)
      | refine wkT ?_
      | refine Bs.all ?_
      | (show RetOk _ _ _ _ _ _; refine RetOk.of (T := T) (RL.row rfl rfl LdN.hasBlk (by rfl) (RL.tmp rfl (RL.tmp rfl RL.nil))) ?_)
      | (show QOk _ _ _ _ _ _ _; refine QOk.build rfl rfl Nf.auto ?_)
      | (show OpOk _ _ _ _ _ _ _; first | refine opB (fun b => ?_) | refine opA (fun a' c' hc1 hc2 => ?_))
      | (show GJ _ _ _ _ _ _ _; first | refine GJ.t (by decide) ?_ | refine GJ.f (by decide) ?_ | refine GJ.ft (by decide) ?_ | refine GJ.ff (by decide) ?_)
      | (show Br _ _ _; first | refine Br.t (by decide) ?_ | refine Br.f (by decide) ?_)
      | (show GJ _ _ _ _ _ _ _; first | (apply GJ.and; exact rfl; intro hg) | (apply GJ.or; exact rfl; intro hg)))
    refine bgrow_ok (.inl rfl) (by simp only [List.length_cons] at i2 h2 hs; omega) (by simp only [List.length_cons] at i2 h2; omega) (fun b2 c2 h3 h4 => ?_)
    repeat (first
      | (show _ ∧ _; exact ⟨rfl, rfl, rfl⟩)
      | refine wkT ?_
      | refine Bs.all ?_
      | (show RetOk _ _ _ _ _ _; refine RetOk.of (T := T) (RL.row rfl rfl LdN.hasBlk (by rfl) (RL.tmp rfl (RL.tmp rfl RL.nil))) ?_)
      | (show QOk _ _ _ _ _ _ _; refine QOk.build rfl rfl Nf.auto ?_)
      | (show OpOk _ _ _ _ _ _ _; first | refine opB (fun b => ?_) | refine opA (fun a' c' hc1 hc2 => ?_))
      | (show GJ _ _ _ _ _ _ _; first | refine GJ.t (by decide) ?_ | refine GJ.f (by decide) ?_ | refine GJ.ft (by decide) ?_ | refine GJ.ff (by decide) ?_)
      | (show Br _ _ _; first | refine Br.t (by decide) ?_ | refine Br.f (by decide) ?_)
      | (show GJ _ _ _ _ _ _ _; first | (apply GJ.and; exact rfl; intro hg) | (apply GJ.or; exact rfl; intro hg)))
    refine wstr_ok (l := []) (m := x) (.inr rfl) rfl ⟨by simp, by omega⟩ (fun a3 c3 hc3 hc4 => ?_)
    rw [List.nil_append]
    rw [Nat.zero_add x.length] at hc3 ⊢
    repeat (first
      | (show _ ∧ _; exact ⟨rfl, rfl, rfl⟩)
      | refine wkT ?_
      | refine Bs.all ?_
      | (show RetOk _ _ _ _ _ _; refine RetOk.of (T := T) (RL.row rfl rfl LdN.hasBlk (by rfl) (RL.tmp rfl (RL.tmp rfl RL.nil))) ?_)
      | (show QOk _ _ _ _ _ _ _; refine QOk.build rfl rfl Nf.auto ?_)
      | (show OpOk _ _ _ _ _ _ _; first | refine opB (fun b => ?_) | refine opA (fun a' c' hc1 hc2 => ?_))
      | (show GJ _ _ _ _ _ _ _; first | refine GJ.t (by decide) ?_ | refine GJ.f (by decide) ?_ | refine GJ.ft (by decide) ?_ | refine GJ.ff (by decide) ?_)
      | (show Br _ _ _; first | refine Br.t (by decide) ?_ | refine Br.f (by decide) ?_)
      | (show GJ _ _ _ _ _ _ _; first | (apply GJ.and; exact rfl; intro hg) | (apply GJ.or; exact rfl; intro hg)))
    refine LoopOk.at (ι := Nat × List UInt8 × Option Addr × Nat) Keep.auto (fun (j, w, ad, cp) => [(65, .int .i64 (j : Int))]) (fun (j, w, ad, cp) => .blk b 87 [ptr' b, .slice ad w.length cp] :: .sl ad w.length cp 5 1 (w.map u8) :: .sl a (x :: m).length c 9 1 ((x :: m).map str) :: r) (fun (j, w, ad, cp) => j ≤ m.length ∧ w = joinD ((x :: m).take (j + 1)) ∧ w.length ≤ cp) (fun (j, w, ad, cp) => m.length - j) (0, x, a3, c3) ?_ Sub.auto Sup.auto ?_
    · exact ⟨by omega, by simp [joinD], hc3⟩
    rintro ⟨j, w, ad, cp⟩ ⟨k1, k2, k3⟩
    dsimp only [List.cons_append, List.nil_append] at k1 k2 k3 ⊢
    have hjl := joinD_len ((x :: m).take (j + 1))
    rw [← k2, List.length_take] at hjl
    have hjs := sumL_take_le (x :: m) (j + 1)
    have hwl : w.length ≤ 50000 := by omega
    have hcl : (x :: m).length = m.length + 1 := rfl
    have hro : Rds ro (.blk b 87 [ptr' b, .slice ad w.length cp] :: .sl ad w.length cp 5 1 (w.map u8) :: .sl a (x :: m).length c 9 1 ((x :: m).map str) :: r) a (x :: m).length c 1 ((x :: m).map str) := Rds.hasSl hnc hcm (by simp)
    have hro3 : Rds ro (.blk b 87 [ptr' b, .slice ad w.length cp] :: .sl ad w.length cp 5 1 (w.map u8) :: .sl a (x :: m).length c 9 1 ((x :: m).map str) :: r) (cutA a (1 : Int).toNat c 1) ((((x :: m).length : Nat) : Int).toNat - (1 : Int).toNat) (c - (1 : Int).toNat) 1 (m.map str) := by
      have h := hro.cutI (lo := 1) (hi := (((x :: m).length : Nat) : Int)) (by omega)
      have e : ((((x :: m).map str).drop ((1 : Int).toNat * 1)).take (((((x :: m).length : Nat) : Int).toNat - (1 : Int).toNat) * 1)) = m.map str := by
        simp
        exact List.take_of_length_le (by simp)
      rw [e] at h
      exact h
    by_cases hj : j < m.length
    · have eg : m[((j : Int)).toNat]! = m[j] := by simp [hj]
      have hjn := joinD_take (l := x :: m) (i := j + 1) (by omega) (by omega)
      have hgl := sumL_get_le (l := x :: m) (i := j + 1) (by omega)
      have e2 : (x :: m)[j + 1]'(by omega) = m[j] := rfl
      rw [e2, ← eg] at hjn hgl
      rw [← k2] at hjn
      obtain ⟨y, hy⟩ : ∃ y, m[((j : Int)).toNat]! = y := ⟨_, rfl⟩
      rw [hy] at hjn hgl
      repeat (first
        | (show _ ∧ _; exact ⟨rfl, rfl, rfl⟩)
        | refine wkT ?_
        | refine Bs.all ?_
        | (show RetOk _ _ _ _ _ _; refine RetOk.of (T := T) (RL.row rfl rfl LdN.hasBlk (by rfl) (RL.tmp rfl (RL.tmp rfl RL.nil))) ?_)
        | (show QOk _ _ _ _ _ _ _; refine QOk.build rfl rfl Nf.auto ?_)
        | (show OpOk _ _ _ _ _ _ _; first | refine opB (fun b => ?_) | refine opA (fun a' c' hc1 hc2 => ?_))
        | (show GJ _ _ _ _ _ _ _; first | refine GJ.t (by decide) ?_ | refine GJ.f (by decide) ?_ | refine GJ.ft (by decide) ?_ | refine GJ.ff (by decide) ?_)
        | (show Br _ _ _; first | refine Br.t (by decide) ?_ | refine Br.f (by decide) ?_)
        | (show GJ _ _ _ _ _ _ _; first | (apply GJ.and; exact rfl; intro hg) | (apply GJ.or; exact rfl; intro hg)))
      refine wstr_ok (l := w) (m := [32]) (.inr rfl) rfl ⟨by omega, by omega⟩ (fun a4 c4 hc5 hc6 => ?_)
      rw [← List.length_append]
      repeat (first
        | (show _ ∧ _; exact ⟨rfl, rfl, rfl⟩)
        | refine wkT ?_
        | refine Bs.all ?_
        | (show RetOk _ _ _ _ _ _; refine RetOk.of (T := T) (RL.row rfl rfl LdN.hasBlk (by rfl) (RL.tmp rfl (RL.tmp rfl RL.nil))) ?_)
        | (show QOk _ _ _ _ _ _ _; refine QOk.build rfl rfl Nf.auto ?_)
        | (show OpOk _ _ _ _ _ _ _; first | refine opB (fun b => ?_) | refine opA (fun a' c' hc1 hc2 => ?_))
        | (show GJ _ _ _ _ _ _ _; first | refine GJ.t (by decide) ?_ | refine GJ.f (by decide) ?_ | refine GJ.ft (by decide) ?_ | refine GJ.ff (by decide) ?_)
        | (show Br _ _ _; first | refine Br.t (by decide) ?_ | refine Br.f (by decide) ?_)
        | (show GJ _ _ _ _ _ _ _; first | (apply GJ.and; exact rfl; intro hg) | (apply GJ.or; exact rfl; intro hg)))
      rw [hy]
      refine wstr_ok (l := w ++ [32]) (m := y) (.inr rfl) rfl ⟨by simp; omega, by omega⟩ (fun a5 c5 hc7 hc8 => ?_)
      rw [← List.length_append] at hc7 ⊢
      repeat (first
        | (show _ ∧ _; exact ⟨rfl, rfl, rfl⟩)
        | refine wkT ?_
        | refine Bs.all ?_
        | (show RetOk _ _ _ _ _ _; refine RetOk.of (T := T) (RL.row rfl rfl LdN.hasBlk (by rfl) (RL.tmp rfl (RL.tmp rfl RL.nil))) ?_)
        | (show QOk _ _ _ _ _ _ _; refine QOk.build rfl rfl Nf.auto ?_)
        | (show OpOk _ _ _ _ _ _ _; first | refine opB (fun b => ?_) | refine opA (fun a' c' hc1 hc2 => ?_))
        | (show GJ _ _ _ _ _ _ _; first | refine GJ.t (by decide) ?_ | refine GJ.f (by decide) ?_ | refine GJ.ft (by decide) ?_ | refine GJ.ff (by decide) ?_)
        | (show Br _ _ _; first | refine Br.t (by decide) ?_ | refine Br.f (by decide) ?_)
        | (show GJ _ _ _ _ _ _ _; first | (apply GJ.and; exact rfl; intro hg) | (apply GJ.or; exact rfl; intro hg)))
      rw [List.append_assoc, List.cons_append, List.nil_append] at hc7 ⊢
      refine Wk.id ⟨(j + 1, w ++ 32 :: y, a5, c5), ⟨rfl, ?_⟩, ?_, Sub.auto, Sup.auto⟩
      all_goals try dsimp only
      · exact ⟨by omega, hjn.symm, hc7⟩
      · omega
    · obtain rfl : j = m.length := by omega
      rw [List.take_of_length_le (by simp)] at k2
      subst k2
      have hne : joinD (x :: m) ≠ [] := by
        cases m with
        | nil => simp at h2
        | cons y m => simp [joinD]
      repeat (first
        | (show _ ∧ _; exact ⟨rfl, rfl, rfl⟩)
        | refine wkT ?_
        | refine Bs.all ?_
        | (show RetOk _ _ _ _ _ _; refine RetOk.of (T := T) (RL.row rfl rfl LdN.hasBlk (by rfl) (RL.tmp rfl (RL.tmp rfl RL.nil))) ?_)
        | (show QOk _ _ _ _ _ _ _; refine QOk.build rfl rfl Nf.auto ?_)
        | (show OpOk _ _ _ _ _ _ _; first | refine opB (fun b => ?_) | refine opA (fun a' c' hc1 hc2 => ?_))
        | (show GJ _ _ _ _ _ _ _; first | refine GJ.t (by decide) ?_ | refine GJ.f (by decide) ?_ | refine GJ.ft (by decide) ?_ | refine GJ.ff (by decide) ?_)
        | (show Br _ _ _; first | refine Br.t (by decide) ?_ | refine Br.f (by decide) ?_)
        | (show GJ _ _ _ _ _ _ _; first | (apply GJ.and; exact rfl; intro hg) | (apply GJ.or; exact rfl; intro hg)))
      refine bstr_ok rfl hne k3 (by omega) ?_
      repeat (first
        | (show _ ∧ _; exact ⟨rfl, rfl, rfl⟩)
        | refine wkT ?_
        | refine Bs.all ?_
        | (show RetOk _ _ _ _ _ _; refine RetOk.of (T := T) (RL.row rfl rfl LdN.hasBlk (by rfl) (RL.tmp rfl (RL.tmp rfl RL.nil))) ?_)
        | (show QOk _ _ _ _ _ _ _; refine QOk.build rfl rfl Nf.auto ?_)
        | (show OpOk _ _ _ _ _ _ _; first | refine opB (fun b => ?_) | refine opA (fun a' c' hc1 hc2 => ?_))
        | (show GJ _ _ _ _ _ _ _; first | refine GJ.t (by decide) ?_ | refine GJ.f (by decide) ?_ | refine GJ.ft (by decide) ?_ | refine GJ.ff (by decide) ?_)
        | (show Br _ _ _; first | refine Br.t (by decide) ?_ | refine Br.f (by decide) ?_)
        | (show GJ _ _ _ _ _ _ _; first | (apply GJ.and; exact rfl; intro hg) | (apply GJ.or; exact rfl; intro hg)))
      exact Wk.outS Sup.auto (.refl _) hk
end
end Go.Proofs.YtniofdklhlbphaaDoor
