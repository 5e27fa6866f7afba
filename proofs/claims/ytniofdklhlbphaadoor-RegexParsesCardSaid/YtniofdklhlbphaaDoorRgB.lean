/- Contracts of wide: Digits; of regex: often. -/
import Derived.Test.YtniofdklhlbphaaDoorRg4
import Derived.Test.YtniofdklhlbphaaDoorRg1
import Derived.Test.YtniofdklhlbphaaDoorEn3
namespace Go.Proofs.YtniofdklhlbphaaDoor
open Go Go.E
set_option linter.unusedVariables false
set_option linter.unusedSimpArgs false
set_option maxRecDepth 10000
theorem decD_len : ∀ (k n : Nat), (decD k n).length ≤ k
  | 0, n => by simp [decD]
  | k + 1, n => by
    rw [decD]
    split
    · simp
    · rw [List.length_append]; have := decD_len k (n / 10); simp; omega
theorem digsD_len (n : Nat) : (digsD n).length ≤ 20 := decD_len 20 n
section
variable {ro : Ro} {own r : Chs} {K : Value → Ro → Chs → Prop} {g : Chunk → Chs}
set_option maxHeartbeats 4000000 in
theorem wdigits_ok {n : Nat} (hn : n < 18446744073709551616) (hk : K (str (digsD n)) ro own) : CallOk Tryd.prog 112 #[.int .u64 (n : Int)] ro own K := by
  refine CallOk.intro (args := [_]) (rs := [_]) T_ok Tryd.func112 Tryd.call112 rfl rfl (by kernel_rfl) rfl rfl ?_
  repeat (first
    | (show _ ∧ _; exact ⟨rfl, rfl, rfl⟩)
    | refine wkP ?_
    | (show OpOk _ _ _ _ _ _ _; first | refine opB (fun b => ?_) | refine opA (fun a' c' hc1 hc2 => ?_))
    | (show GJ _ _ _ _ _ _ _; first | (apply GJ.and; exact rfl; intro hg) | (apply GJ.or; exact rfl; intro hg)))
  obtain ⟨b3, hb3⟩ : ∃ z : Nat, z = b := ⟨_, rfl⟩
  subst hb3
  refine LoopOk.at (ι := Nat × Nat × List Value × List UInt8) Keep.auto (fun (a, m, cs, l) => [(4, .int .i64 (a : Int)), (0, .int .u64 (m : Int))]) (fun (a, m, cs, l) => .blk b3 167 cs :: own) (fun (a, m, cs, l) => 1 ≤ a ∧ a ≤ 20 ∧ m < 10 ^ a ∧ m < 18446744073709551616 ∧ cs.length = 20 ∧ cs.drop a = l.map u8 ∧ decD a m ++ l = digsD n) (fun (a, m, cs, l) => a) (20, n, List.replicate 20 (.int .u8 0), []) ?_ Sub.auto Sup.auto ?_
  · exact ⟨by decide, by decide, by omega, hn, by simp, by simp, by simp [digsD]⟩
  rintro ⟨a, m, cs, l⟩ ⟨i1, i2, i3, i4, i5, i6, i7⟩
  dsimp only [List.cons_append, List.nil_append] at i1 i2 i3 i4 i5 i6 i7 ⊢
  obtain ⟨a, rfl⟩ : ∃ j, a = j + 1 := ⟨a - 1, by omega⟩
  repeat (first
    | (show _ ∧ _; exact ⟨rfl, rfl, rfl⟩)
    | refine wkP ?_
    | (show OpOk _ _ _ _ _ _ _; first | refine opB (fun b => ?_) | refine opA (fun a' c' hc1 hc2 => ?_))
    | (show GJ _ _ _ _ _ _ _; first | (apply GJ.and; exact rfl; intro hg) | (apply GJ.or; exact rfl; intro hg)))
  have e1 : (((a + 1 : Nat) : Int) - 1) = (a : Int) := by omega
  obtain ⟨u, hu⟩ : ∃ u : UInt8, u = UInt8.ofNat (48 + m % 10) := ⟨_, rfl⟩
  have hut : u.toNat = 48 + m % 10 := by rw [hu]; exact UInt8.toNat_ofNat_of_lt' (by show _ < 256; omega)
  have e2 : (48 + (m : Int) % 10) % 18446744073709551616 % 256 = ((u.toNat : Nat) : Int) := by rw [hut]; omega
  rw [e1, e2, show 0 + ((a : Int)).toNat * 1 = a by simp]
  have hd : (cs.set a (u8 u)).drop a = (u :: l).map u8 := by
    have hlt : a < (cs.set a (u8 u)).length := by rw [List.length_set, i5]; omega
    rw [List.drop_eq_getElem_cons hlt, List.getElem_set_self, List.drop_set_of_lt (by omega), i6]; rfl
  have hln : (u :: l).length = 20 - a := by
    have := congrArg List.length hd
    rw [List.length_drop, List.length_set, i5, List.length_map] at this; omega
  refine OpOk.storeAt rfl rfl rfl rfl (by rw [i5]; omega) ?_
  repeat (first
    | (show _ ∧ _; exact ⟨rfl, rfl, rfl⟩)
    | refine wkP ?_
    | (show OpOk _ _ _ _ _ _ _; first | refine opB (fun b => ?_) | refine opA (fun a' c' hc1 hc2 => ?_))
    | (show GJ _ _ _ _ _ _ _; first | (apply GJ.and; exact rfl; intro hg) | (apply GJ.or; exact rfl; intro hg)))
  by_cases hm : m < 10
  · have hz : m / 10 = 0 := by omega
    have hzi : (m : Int) / 10 = 0 := by omega
    rw [decD, if_pos hm] at i7
    have hres : u :: l = digsD n := by rw [← i7, hu, show m % 10 = m by omega]; rfl
    rw [hzi]
    repeat (first
      | (show _ ∧ _; exact ⟨rfl, rfl, rfl⟩)
      | refine wkP ?_
      | (show OpOk _ _ _ _ _ _ _; first | refine opB (fun b => ?_) | refine opA (fun a' c' hc1 hc2 => ?_))
      | (show GJ _ _ _ _ _ _ _; first | (apply GJ.and; exact rfl; intro hg) | (apply GJ.or; exact rfl; intro hg)))
    refine OpOk.sliceArrL rfl rfl rfl ⟨by omega, by omega⟩ ?_
    repeat (first
      | (show _ ∧ _; exact ⟨rfl, rfl, rfl⟩)
      | refine wkP ?_
      | (show OpOk _ _ _ _ _ _ _; first | refine opB (fun b => ?_) | refine opA (fun a' c' hc1 hc2 => ?_))
      | (show GJ _ _ _ _ _ _ _; first | (apply GJ.and; exact rfl; intro hg) | (apply GJ.or; exact rfl; intro hg)))
    refine OpOk.toStr (l := u :: l) rfl rfl rfl rfl (Rds.arr (cs := cs.set a (u8 u)) (k := (a : Int).toNat * 1) (by simpa using hd) (by rw [List.length_map, hln]; simp) (by omega) (by unfold maxLen; omega)) ?_
    rw [hres]
    repeat (first
      | (show _ ∧ _; exact ⟨rfl, rfl, rfl⟩)
      | refine wkP ?_
      | (show OpOk _ _ _ _ _ _ _; first | refine opB (fun b => ?_) | refine opA (fun a' c' hc1 hc2 => ?_))
      | (show GJ _ _ _ _ _ _ _; first | (apply GJ.and; exact rfl; intro hg) | (apply GJ.or; exact rfl; intro hg)))
    exact Wk.outS Sup.auto (.refl _) hk
  · have hz : ¬ (m : Int) / 10 = 0 := by omega
    have hq : (m : Int) / 10 = ((m / 10 : Nat) : Int) := by omega
    rw [decD, if_neg hm, List.append_assoc] at i7
    have h10 : m / 10 < 10 ^ a := by
      rw [Nat.pow_succ] at i3; omega
    have ha : 1 ≤ a := by
      rcases Nat.eq_zero_or_pos a with h | h
      · subst h; simp at h10; omega
      · exact h
    rw [hq]
    repeat (first
      | (show _ ∧ _; exact ⟨rfl, rfl, rfl⟩)
      | refine wkP ?_
      | (show OpOk _ _ _ _ _ _ _; first | refine opB (fun b => ?_) | refine opA (fun a' c' hc1 hc2 => ?_))
      | (show GJ _ _ _ _ _ _ _; first | (apply GJ.and; exact rfl; intro hg) | (apply GJ.or; exact rfl; intro hg)))
    refine Wk.id ⟨(a, m / 10, cs.set a (u8 u), u :: l), ⟨rfl, ?_⟩, ?_, Sub.auto, Sup.auto⟩
    all_goals try dsimp only
    · exact ⟨ha, by omega, h10, by omega, by rw [List.length_set, i5], hd, by rw [← i7, hu]; rfl⟩
    · omega
set_option maxHeartbeats 4000000 in
theorem roften_ok {k x y : Int} {z : SetD} {a : Option Addr} {m c : Nat} (h : ¬ (x < 0 ∨ 256 < x ∨ 256 < y ∨ (0 ≤ y ∧ y < x))) (hk : K (str (oftenD x y)) ro own) :
    CallOk Tryd.prog 86 #[.agg (nodeV k z a m c x y).toArray] ro own K := by
  have hx := digsD_len x.toNat
  have hy := digsD_len y.toNat
  have ex : x % 18446744073709551616 = ((x.toNat : Nat) : Int) := by omega
  unfold oftenD at hk
  by_cases h1 : x = 0 ∧ y < 0
  · rw [if_pos h1] at hk
    refine CallOk.intro (args := [_]) (rs := [_]) T_ok Tryd.func86 Tryd.call86 rfl rfl (by kernel_rfl) rfl rfl ?_
    repeat (first
      | (show _ ∧ _; exact ⟨rfl, rfl, rfl⟩)
      | refine wkP ?_
      | (show OpOk _ _ _ _ _ _ _; first | refine opB (fun b => ?_) | refine opA (fun a' c' hc1 hc2 => ?_))
      | (show GJ _ _ _ _ _ _ _; first | (apply GJ.and; exact rfl; intro hg) | (apply GJ.or; exact rfl; intro hg)))
    exact Wk.outS Sup.auto (.refl _) hk
  rw [if_neg h1] at hk
  by_cases h2 : x = 1 ∧ y < 0
  · rw [if_pos h2] at hk
    refine CallOk.intro (args := [_]) (rs := [_]) T_ok Tryd.func86 Tryd.call86 rfl rfl (by kernel_rfl) rfl rfl ?_
    repeat (first
      | (show _ ∧ _; exact ⟨rfl, rfl, rfl⟩)
      | refine wkP ?_
      | (show OpOk _ _ _ _ _ _ _; first | refine opB (fun b => ?_) | refine opA (fun a' c' hc1 hc2 => ?_))
      | (show GJ _ _ _ _ _ _ _; first | (apply GJ.and; exact rfl; intro hg) | (apply GJ.or; exact rfl; intro hg)))
    exact Wk.outS Sup.auto (.refl _) hk
  rw [if_neg h2] at hk
  by_cases h3 : x = 0 ∧ y = 1
  · rw [if_pos h3] at hk
    refine CallOk.intro (args := [_]) (rs := [_]) T_ok Tryd.func86 Tryd.call86 rfl rfl (by kernel_rfl) rfl rfl ?_
    repeat (first
      | (show _ ∧ _; exact ⟨rfl, rfl, rfl⟩)
      | refine wkP ?_
      | (show OpOk _ _ _ _ _ _ _; first | refine opB (fun b => ?_) | refine opA (fun a' c' hc1 hc2 => ?_))
      | (show GJ _ _ _ _ _ _ _; first | (apply GJ.and; exact rfl; intro hg) | (apply GJ.or; exact rfl; intro hg)))
    exact Wk.outS Sup.auto (.refl _) hk
  rw [if_neg h3] at hk
  by_cases h4 : y < 0
  · rw [if_pos h4] at hk
    refine CallOk.intro (args := [_]) (rs := [_]) T_ok Tryd.func86 Tryd.call86 rfl rfl (by kernel_rfl) rfl rfl ?_
    repeat (first
      | (show _ ∧ _; exact ⟨rfl, rfl, rfl⟩)
      | refine wkP ?_
      | (show OpOk _ _ _ _ _ _ _; first | refine opB (fun b => ?_) | refine opA (fun a' c' hc1 hc2 => ?_))
      | (show GJ _ _ _ _ _ _ _; first | (apply GJ.and; exact rfl; intro hg) | (apply GJ.or; exact rfl; intro hg)))
    rw [ex]
    refine wdigits_ok (by omega) ?_
    generalize digsD x.toNat = D at hx hk ⊢
    repeat (first
      | (show _ ∧ _; exact ⟨rfl, rfl, rfl⟩)
      | refine wkP ?_
      | (show OpOk _ _ _ _ _ _ _; first | refine opB (fun b => ?_) | refine opA (fun a' c' hc1 hc2 => ?_))
      | (show GJ _ _ _ _ _ _ _; first | (apply GJ.and; exact rfl; intro hg) | (apply GJ.or; exact rfl; intro hg)))
    refine ⟨by simp; omega, ?_⟩
    repeat (first
      | (show _ ∧ _; exact ⟨rfl, rfl, rfl⟩)
      | refine wkP ?_
      | (show OpOk _ _ _ _ _ _ _; first | refine opB (fun b => ?_) | refine opA (fun a' c' hc1 hc2 => ?_))
      | (show GJ _ _ _ _ _ _ _; first | (apply GJ.and; exact rfl; intro hg) | (apply GJ.or; exact rfl; intro hg)))
    refine ⟨by simp; omega, ?_⟩
    repeat (first
      | (show _ ∧ _; exact ⟨rfl, rfl, rfl⟩)
      | refine wkP ?_
      | (show OpOk _ _ _ _ _ _ _; first | refine opB (fun b => ?_) | refine opA (fun a' c' hc1 hc2 => ?_))
      | (show GJ _ _ _ _ _ _ _; first | (apply GJ.and; exact rfl; intro hg) | (apply GJ.or; exact rfl; intro hg)))
    exact Wk.outE Sup.auto (.refl _) hk (congrArg str (by simp))
  rw [if_neg h4] at hk
  have ey : y % 18446744073709551616 = ((y.toNat : Nat) : Int) := by omega
  by_cases h5 : x = y
  · rw [if_pos h5] at hk
    refine CallOk.intro (args := [_]) (rs := [_]) T_ok Tryd.func86 Tryd.call86 rfl rfl (by kernel_rfl) rfl rfl ?_
    repeat (first
      | (show _ ∧ _; exact ⟨rfl, rfl, rfl⟩)
      | refine wkP ?_
      | (show OpOk _ _ _ _ _ _ _; first | refine opB (fun b => ?_) | refine opA (fun a' c' hc1 hc2 => ?_))
      | (show GJ _ _ _ _ _ _ _; first | (apply GJ.and; exact rfl; intro hg) | (apply GJ.or; exact rfl; intro hg)))
    rw [ex]
    refine wdigits_ok (by omega) ?_
    generalize digsD x.toNat = D at hx hk ⊢
    repeat (first
      | (show _ ∧ _; exact ⟨rfl, rfl, rfl⟩)
      | refine wkP ?_
      | (show OpOk _ _ _ _ _ _ _; first | refine opB (fun b => ?_) | refine opA (fun a' c' hc1 hc2 => ?_))
      | (show GJ _ _ _ _ _ _ _; first | (apply GJ.and; exact rfl; intro hg) | (apply GJ.or; exact rfl; intro hg)))
    refine ⟨by simp; omega, ?_⟩
    repeat (first
      | (show _ ∧ _; exact ⟨rfl, rfl, rfl⟩)
      | refine wkP ?_
      | (show OpOk _ _ _ _ _ _ _; first | refine opB (fun b => ?_) | refine opA (fun a' c' hc1 hc2 => ?_))
      | (show GJ _ _ _ _ _ _ _; first | (apply GJ.and; exact rfl; intro hg) | (apply GJ.or; exact rfl; intro hg)))
    refine ⟨by simp; omega, ?_⟩
    repeat (first
      | (show _ ∧ _; exact ⟨rfl, rfl, rfl⟩)
      | refine wkP ?_
      | (show OpOk _ _ _ _ _ _ _; first | refine opB (fun b => ?_) | refine opA (fun a' c' hc1 hc2 => ?_))
      | (show GJ _ _ _ _ _ _ _; first | (apply GJ.and; exact rfl; intro hg) | (apply GJ.or; exact rfl; intro hg)))
    exact Wk.outE Sup.auto (.refl _) hk (congrArg str (by simp))
  · rw [if_neg h5] at hk
    refine CallOk.intro (args := [_]) (rs := [_]) T_ok Tryd.func86 Tryd.call86 rfl rfl (by kernel_rfl) rfl rfl ?_
    repeat (first
      | (show _ ∧ _; exact ⟨rfl, rfl, rfl⟩)
      | refine wkP ?_
      | (show OpOk _ _ _ _ _ _ _; first | refine opB (fun b => ?_) | refine opA (fun a' c' hc1 hc2 => ?_))
      | (show GJ _ _ _ _ _ _ _; first | (apply GJ.and; exact rfl; intro hg) | (apply GJ.or; exact rfl; intro hg)))
    rw [ex]
    refine wdigits_ok (by omega) ?_
    repeat (first
      | (show _ ∧ _; exact ⟨rfl, rfl, rfl⟩)
      | refine wkP ?_
      | (show OpOk _ _ _ _ _ _ _; first | refine opB (fun b => ?_) | refine opA (fun a' c' hc1 hc2 => ?_))
      | (show GJ _ _ _ _ _ _ _; first | (apply GJ.and; exact rfl; intro hg) | (apply GJ.or; exact rfl; intro hg)))
    generalize digsD x.toNat = D at hx hk ⊢
    refine ⟨by simp; omega, ?_⟩
    repeat (first
      | (show _ ∧ _; exact ⟨rfl, rfl, rfl⟩)
      | refine wkP ?_
      | (show OpOk _ _ _ _ _ _ _; first | refine opB (fun b => ?_) | refine opA (fun a' c' hc1 hc2 => ?_))
      | (show GJ _ _ _ _ _ _ _; first | (apply GJ.and; exact rfl; intro hg) | (apply GJ.or; exact rfl; intro hg)))
    refine ⟨by simp; omega, ?_⟩
    repeat (first
      | (show _ ∧ _; exact ⟨rfl, rfl, rfl⟩)
      | refine wkP ?_
      | (show OpOk _ _ _ _ _ _ _; first | refine opB (fun b => ?_) | refine opA (fun a' c' hc1 hc2 => ?_))
      | (show GJ _ _ _ _ _ _ _; first | (apply GJ.and; exact rfl; intro hg) | (apply GJ.or; exact rfl; intro hg)))
    rw [ey]
    refine wdigits_ok (by omega) ?_
    repeat (first
      | (show _ ∧ _; exact ⟨rfl, rfl, rfl⟩)
      | refine wkP ?_
      | (show OpOk _ _ _ _ _ _ _; first | refine opB (fun b => ?_) | refine opA (fun a' c' hc1 hc2 => ?_))
      | (show GJ _ _ _ _ _ _ _; first | (apply GJ.and; exact rfl; intro hg) | (apply GJ.or; exact rfl; intro hg)))
    generalize digsD y.toNat = E at hy hk ⊢
    refine ⟨by simp; omega, ?_⟩
    repeat (first
      | (show _ ∧ _; exact ⟨rfl, rfl, rfl⟩)
      | refine wkP ?_
      | (show OpOk _ _ _ _ _ _ _; first | refine opB (fun b => ?_) | refine opA (fun a' c' hc1 hc2 => ?_))
      | (show GJ _ _ _ _ _ _ _; first | (apply GJ.and; exact rfl; intro hg) | (apply GJ.or; exact rfl; intro hg)))
    refine ⟨by simp; omega, ?_⟩
    repeat (first
      | (show _ ∧ _; exact ⟨rfl, rfl, rfl⟩)
      | refine wkP ?_
      | (show OpOk _ _ _ _ _ _ _; first | refine opB (fun b => ?_) | refine opA (fun a' c' hc1 hc2 => ?_))
      | (show GJ _ _ _ _ _ _ _; first | (apply GJ.and; exact rfl; intro hg) | (apply GJ.or; exact rfl; intro hg)))
    exact Wk.outE Sup.auto (.refl _) hk (congrArg str (by simp))
end
end Go.Proofs.YtniofdklhlbphaaDoor
