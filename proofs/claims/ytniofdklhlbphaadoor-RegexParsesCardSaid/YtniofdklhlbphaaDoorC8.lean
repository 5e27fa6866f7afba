/- Contracts of class: Text. -/
import Derived.Test.YtniofdklhlbphaaDoorC7
import Derived.Test.YtniofdklhlbphaaDoorC5
namespace Go.Proofs.YtniofdklhlbphaaDoor
open Go Go.E
set_option linter.unusedVariables false
set_option maxRecDepth 10000
/-- Where a run ends. -/
def endF (s : SetD) : Nat → Nat → Nat
  | 0, t => t
  | n + 1, t => if t < 255 ∧ s.has (t + 1) = true then endF s n (t + 1) else t
def runsF (s : SetD) : Nat → Nat → List UInt8
  | 0, _ => []
  | n + 1, c => if 256 ≤ c then [] else if s.has c = true then nameD c ++ (if c < endF s 256 c then 45 :: nameD (endF s 256 c) else []) ++ runsF s n (endF s 256 c + 1) else runsF s n (c + 1)
def textD (s : SetD) : List UInt8 := if s = allD then [46] else if s.len = 1 then (match (List.range 256).find? s.has with
  | some c => nameD c
  | none => []) else 91 :: (runsF s 256 0 ++ [93])
theorem endF_ge (s : SetD) : ∀ (n t : Nat), t ≤ 255 → t ≤ endF s n t ∧ endF s n t ≤ 255
  | 0, t, h => ⟨Nat.le_refl _, h⟩
  | n + 1, t, h => by
    rw [endF]
    split
    · have := endF_ge s n (t + 1) (by omega); omega
    · omega
theorem endF_fuel (s : SetD) : ∀ (n m t : Nat), 255 ≤ t + n → 255 ≤ t + m → t ≤ 255 → endF s n t = endF s m t
  | 0, 0, t, _, _, _ => rfl
  | 0, m + 1, t, h1, h2, h3 => by rw [endF, endF, if_neg (by omega)]
  | n + 1, 0, t, h1, h2, h3 => by rw [endF, endF, if_neg (by omega)]
  | n + 1, m + 1, t, h1, h2, h3 => by
    rw [endF, endF]
    split
    · exact endF_fuel s n m (t + 1) (by omega) (by omega) (by omega)
    · rfl
theorem nameD_len (c : Nat) : 1 ≤ (nameD c).length ∧ (nameD c).length ≤ 4 := by unfold nameD; split <;> simp
section
variable {ro : Ro} {own r : Chs} {K : Value → Ro → Chs → Prop} {g : Chunk → Chs}
set_option maxHeartbeats 1000000 in
theorem text_ok {s : SetD} (ht : TabOk ro) (hs : SetIn s) (hk : K (str (textD s)) ro own) : CallOk Tryd.prog 85 #[.agg (setV s).toArray] ro own K := by
  refine CallOk.intro (args := [_]) (rs := [_]) T_ok Tryd.func85 Tryd.call85 rfl rfl (by kernel_rfl) rfl rfl ?_
  repeat (first
    | (show _ ∧ _; exact ⟨rfl, rfl, rfl⟩)
    | refine wkG ?_
    | (show OpOk _ _ _ _ _ _ _; first | refine opB (fun b => ?_) | refine opA (fun a' c' hc1 hc2 => ?_))
    | (show GJ _ _ _ _ _ _ _; first | (apply GJ.and; exact rfl; intro hg) | (apply GJ.or; exact rfl; intro hg) | refine GJ.t omAuto ?_ | refine GJ.f omAuto ?_ | refine GJ.ft omAuto ?_ | refine GJ.ff omAuto ?_))
  obtain ⟨p, hp⟩ : ∃ p, p = b := ⟨_, rfl⟩
  subst hp
  refine Bs.all ?_
  repeat (first
    | (show _ ∧ _; exact ⟨rfl, rfl, rfl⟩)
    | refine wkT ?_
    | (show OpOk _ _ _ _ _ _ _; first | refine opB (fun b => ?_) | refine opA (fun a' c' hc1 hc2 => ?_))
    | (show GJ _ _ _ _ _ _ _; first | (apply GJ.and; exact rfl; intro hg) | (apply GJ.or; exact rfl; intro hg)))
  refine all_ok ?_
  repeat (first
    | (show _ ∧ _; exact ⟨rfl, rfl, rfl⟩)
    | refine wkT ?_
    | (show OpOk _ _ _ _ _ _ _; first | refine opB (fun b => ?_) | refine opA (fun a' c' hc1 hc2 => ?_))
    | (show GJ _ _ _ _ _ _ _; first | (apply GJ.and; exact rfl; intro hg) | (apply GJ.or; exact rfl; intro hg)))
  refine QOk.eqlArr4 (e := 38) rfl rfl (by kernel_rfl) (by kernel_rfl) (by kernel_rfl) (by kernel_rfl) ?_
  repeat (first
    | (show _ ∧ _; exact ⟨rfl, rfl, rfl⟩)
    | refine wkT ?_
    | (show OpOk _ _ _ _ _ _ _; first | refine opB (fun b => ?_) | refine opA (fun a' c' hc1 hc2 => ?_))
    | (show GJ _ _ _ _ _ _ _; first | (apply GJ.and; exact rfl; intro hg) | (apply GJ.or; exact rfl; intro hg)))
  refine Br.cases (fun h => ?_) (fun h => ?_)
  · have e : s = allD := by
      obtain ⟨a, b, c, d⟩ := s
      simp only [allD] at h ⊢
      obtain ⟨h1, h2, h3, h4⟩ := h
      rw [SetD.mk.injEq]
      omega
    repeat (first
      | (show _ ∧ _; exact ⟨rfl, rfl, rfl⟩)
      | refine wkT ?_
      | (show OpOk _ _ _ _ _ _ _; first | refine opB (fun b => ?_) | refine opA (fun a' c' hc1 hc2 => ?_))
      | (show GJ _ _ _ _ _ _ _; first | (apply GJ.and; exact rfl; intro hg) | (apply GJ.or; exact rfl; intro hg)))
    refine Wk.outV Sup.auto hk (congrArg str ?_)
    rw [textD, if_pos e]
  have hne : s ≠ allD := fun e => h (by subst e; exact ⟨rfl, rfl, rfl, rfl⟩)
  repeat (first
    | (show _ ∧ _; exact ⟨rfl, rfl, rfl⟩)
    | refine wkT ?_
    | (show OpOk _ _ _ _ _ _ _; first | refine opB (fun b => ?_) | refine opA (fun a' c' hc1 hc2 => ?_))
    | (show GJ _ _ _ _ _ _ _; first | (apply GJ.and; exact rfl; intro hg) | (apply GJ.or; exact rfl; intro hg)))
  refine first_ok ht hs (fun h0 => ?_) (fun c hc h1 h2 => ?_)
  · have hT : textD s = 91 :: (runsF s 256 0 ++ [93]) := by rw [textD, if_neg hne, if_neg (by subst h0; decide +kernel)]
    rw [hT] at hk
    repeat (first
      | (show _ ∧ _; exact ⟨rfl, rfl, rfl⟩)
      | refine wkT ?_
      | (show OpOk _ _ _ _ _ _ _; first | refine opB (fun b => ?_) | refine opA (fun a' c' hc1 hc2 => ?_))
      | (show GJ _ _ _ _ _ _ _; first | (apply GJ.and; exact rfl; intro hg) | (apply GJ.or; exact rfl; intro hg)))
    refine CallOk.sup (own0 := .blk b 87 [.pointer none, .slice none 0 0] :: .sl none 0 0 5 1 (([] : List UInt8).map u8) :: .blk p 141 (setV s) :: own) Sup.auto ?_
    refine wbyte_ok (u := 91) (.inl rfl) rfl rfl (by simp) (fun a1 c1 hc1 hc2 => ?_)
    repeat (first
      | (show _ ∧ _; exact ⟨rfl, rfl, rfl⟩)
      | refine wkT ?_
      | (show OpOk _ _ _ _ _ _ _; first | refine opB (fun b => ?_) | refine opA (fun a' c' hc1 hc2 => ?_))
      | (show GJ _ _ _ _ _ _ _; first | (apply GJ.and; exact rfl; intro hg) | (apply GJ.or; exact rfl; intro hg)))
    refine LoopOk.at (ι := Nat × Nat × List UInt8 × Option Addr × Nat) Keep.auto (fun (c, m, l, a, cap) => [(6, .int .i64 (c : Int))]) (fun (c, m, l, a, cap) => .blk b 87 [ptr' b, .slice a l.length cap] :: .sl a l.length cap 5 1 (l.map u8) :: .blk p 141 (setV s) :: own) (fun (c, m, l, a, cap) => c ≤ 256 ∧ 256 ≤ c + m ∧ l ++ runsF s m c = 91 :: runsF s 256 0 ∧ l.length ≤ 12 * c + 1 ∧ l ≠ [] ∧ l.length ≤ cap) (fun (c, m, l, a, cap) => 256 - c) (0, 256, [91], a1, c1) ?_ Sub.auto Sup.auto ?_
    · exact ⟨by omega, by omega, rfl, by simp, by simp, by simpa using hc1⟩
    rintro ⟨c, m, l, a, cap⟩ ⟨i1, i2, i3, i4, i5, i6⟩
    dsimp only [List.cons_append, List.nil_append] at i1 i2 i3 i4 i5 i6 ⊢
    repeat (first
      | (show _ ∧ _; exact ⟨rfl, rfl, rfl⟩)
      | refine wkT ?_
      | (show OpOk _ _ _ _ _ _ _; first | refine opB (fun b => ?_) | refine opA (fun a' c' hc1 hc2 => ?_))
      | (show GJ _ _ _ _ _ _ _; first | (apply GJ.and; exact rfl; intro hg) | (apply GJ.or; exact rfl; intro hg)))
    refine Br.cases (fun hg => ?_) (fun hg => ?_)
    · have em : (c : Int) % 256 = ((c : Nat) : Int) := by omega
      obtain ⟨m, rfl⟩ : ∃ k, m = k + 1 := ⟨m - 1, by omega⟩
      rw [runsF, if_neg (by omega)] at i3
      repeat (first
        | (show _ ∧ _; exact ⟨rfl, rfl, rfl⟩)
        | refine wkT ?_
        | (show OpOk _ _ _ _ _ _ _; first | refine opB (fun b => ?_) | refine opA (fun a' c' hc1 hc2 => ?_))
        | (show GJ _ _ _ _ _ _ _; first | (apply GJ.and; exact rfl; intro hg) | (apply GJ.or; exact rfl; intro hg)))
      refine SeqOk.pass ?_
      repeat (first
        | (show _ ∧ _; exact ⟨rfl, rfl, rfl⟩)
        | refine wkT ?_
        | (show OpOk _ _ _ _ _ _ _; first | refine opB (fun b => ?_) | refine opA (fun a' c' hc1 hc2 => ?_))
        | (show GJ _ _ _ _ _ _ _; first | (apply GJ.and; exact rfl; intro hg) | (apply GJ.or; exact rfl; intro hg)))
      rw [em]
      refine has_ok hs (by omega) ?_
      by_cases hh : s.has c = true
      · rw [hh]
        rw [if_pos hh] at i3
        have hl1 := nameD_len c
        repeat (first
          | (show _ ∧ _; exact ⟨rfl, rfl, rfl⟩)
          | refine wkT ?_
          | (show OpOk _ _ _ _ _ _ _; first | refine opB (fun b => ?_) | refine opA (fun a' c' hc1 hc2 => ?_))
          | (show GJ _ _ _ _ _ _ _; first | (apply GJ.and; exact rfl; intro hg) | (apply GJ.or; exact rfl; intro hg)))
        refine LoopOk.at (ι := Nat × Nat) Keep.auto (fun (t, k) => [(7, .int .i64 (t : Int))]) (fun (t, k) => .blk b 87 [ptr' b, .slice a l.length cap] :: .sl a l.length cap 5 1 (l.map u8) :: .blk p 141 (setV s) :: own) (fun (t, k) => c ≤ t ∧ t ≤ 255 ∧ 255 ≤ t + k ∧ endF s k t = endF s 256 c) (fun (t, k) => 255 - t) (c, 256) ?_ Sub.auto Sup.auto ?_
        · exact ⟨by omega, by omega, by omega, rfl⟩
        rintro ⟨t, k⟩ ⟨k1, k2, k3, k4⟩
        dsimp only [List.cons_append, List.nil_append] at k1 k2 k3 k4 ⊢
        have hl2 := nameD_len t
        by_cases ht : t < 255
        · have em3 : ((t : Int) + 1) % 256 = ((t + 1 : Nat) : Int) := by omega
          obtain ⟨k, rfl⟩ : ∃ j, k = j + 1 := ⟨k - 1, by omega⟩
          rw [endF] at k4
          repeat (first
            | (show _ ∧ _; exact ⟨rfl, rfl, rfl⟩)
            | refine wkT ?_
            | (show OpOk _ _ _ _ _ _ _; first | refine opB (fun b => ?_) | refine opA (fun a' c' hc1 hc2 => ?_))
            | (show GJ _ _ _ _ _ _ _; first | (apply GJ.and; exact rfl; intro hg) | (apply GJ.or; exact rfl; intro hg)))
          rw [em3]
          refine has_ok hs (by omega) ?_
          by_cases hh2 : s.has (t + 1) = true
          · rw [hh2]
            rw [if_pos ⟨ht, hh2⟩] at k4
            repeat (first
              | (show _ ∧ _; exact ⟨rfl, rfl, rfl⟩)
              | refine wkT ?_
              | (show OpOk _ _ _ _ _ _ _; first | refine opB (fun b => ?_) | refine opA (fun a' c' hc1 hc2 => ?_))
              | (show GJ _ _ _ _ _ _ _; first | (apply GJ.and; exact rfl; intro hg) | (apply GJ.or; exact rfl; intro hg)))
            refine Wk.id ⟨(t + 1, k), ⟨rfl, ?_⟩, ?_, Sub.auto, Sup.auto⟩
            all_goals try dsimp only
            · exact ⟨by omega, by omega, by omega, k4⟩
            · omega
          · rw [if_neg (fun hc => hh2 hc.2)] at k4
            rw [Bool.not_eq_true] at hh2
            rw [hh2]
            repeat (first
              | (show _ ∧ _; exact ⟨rfl, rfl, rfl⟩)
              | refine wkT ?_
              | (show OpOk _ _ _ _ _ _ _; first | refine opB (fun b => ?_) | refine opA (fun a' c' hc1 hc2 => ?_))
              | (show GJ _ _ _ _ _ _ _; first | (apply GJ.and; exact rfl; intro hg) | (apply GJ.or; exact rfl; intro hg)))
            rw [em]
            refine name_ok (u := UInt8.ofNat c) (by simp; omega) ?_
            repeat (first
              | (show _ ∧ _; exact ⟨rfl, rfl, rfl⟩)
              | refine wkT ?_
              | (show OpOk _ _ _ _ _ _ _; first | refine opB (fun b => ?_) | refine opA (fun a' c' hc1 hc2 => ?_))
              | (show GJ _ _ _ _ _ _ _; first | (apply GJ.and; exact rfl; intro hg) | (apply GJ.or; exact rfl; intro hg)))
            refine wstr_ok (.inr rfl) rfl ⟨by omega, by omega⟩ (fun a3 c3 hc3 hc4 => ?_)
            rw [← List.length_append]
            repeat (first
              | (show _ ∧ _; exact ⟨rfl, rfl, rfl⟩)
              | refine wkT ?_
              | (show OpOk _ _ _ _ _ _ _; first | refine opB (fun b => ?_) | refine opA (fun a' c' hc1 hc2 => ?_))
              | (show GJ _ _ _ _ _ _ _; first | (apply GJ.and; exact rfl; intro hg) | (apply GJ.or; exact rfl; intro hg)))
            refine SeqOk.pass ?_
            repeat (first
              | (show _ ∧ _; exact ⟨rfl, rfl, rfl⟩)
              | refine wkT ?_
              | (show OpOk _ _ _ _ _ _ _; first | refine opB (fun b => ?_) | refine opA (fun a' c' hc1 hc2 => ?_))
              | (show GJ _ _ _ _ _ _ _; first | (apply GJ.and; exact rfl; intro hg) | (apply GJ.or; exact rfl; intro hg)))
            refine Br.cases (fun hgt => ?_) (fun hgt => ?_)
            · have em2 : (t : Int) % 256 = ((t : Nat) : Int) := by omega
              repeat (first
                | (show _ ∧ _; exact ⟨rfl, rfl, rfl⟩)
                | refine wkT ?_
                | (show OpOk _ _ _ _ _ _ _; first | refine opB (fun b => ?_) | refine opA (fun a' c' hc1 hc2 => ?_))
                | (show GJ _ _ _ _ _ _ _; first | (apply GJ.and; exact rfl; intro hg) | (apply GJ.or; exact rfl; intro hg)))
              rw [em2]
              refine name_ok (u := UInt8.ofNat t) (by simp; omega) ?_
              repeat (first
                | (show _ ∧ _; exact ⟨rfl, rfl, rfl⟩)
                | refine wkT ?_
                | (show OpOk _ _ _ _ _ _ _; first | refine opB (fun b => ?_) | refine opA (fun a' c' hc1 hc2 => ?_))
                | (show GJ _ _ _ _ _ _ _; first | (apply GJ.and; exact rfl; intro hg) | (apply GJ.or; exact rfl; intro hg)))
              refine ⟨by show 1 + _ ≤ _; omega, ?_⟩
              repeat (first
                | (show _ ∧ _; exact ⟨rfl, rfl, rfl⟩)
                | refine wkT ?_
                | (show OpOk _ _ _ _ _ _ _; first | refine opB (fun b => ?_) | refine opA (fun a' c' hc1 hc2 => ?_))
                | (show GJ _ _ _ _ _ _ _; first | (apply GJ.and; exact rfl; intro hg) | (apply GJ.or; exact rfl; intro hg)))
              refine wstr_ok (l := l ++ nameD c) (m := 45 :: nameD t) (.inr rfl) rfl ⟨by rw [List.length_append]; omega, by rw [List.length_cons]; omega⟩ (fun a4 c4 hc5 hc6 => ?_)
              rw [← List.length_append] at hc5 ⊢
              repeat (first
                | (show _ ∧ _; exact ⟨rfl, rfl, rfl⟩)
                | refine wkT ?_
                | (show OpOk _ _ _ _ _ _ _; first | refine opB (fun b => ?_) | refine opA (fun a' c' hc1 hc2 => ?_))
                | (show GJ _ _ _ _ _ _ _; first | (apply GJ.and; exact rfl; intro hg) | (apply GJ.or; exact rfl; intro hg)))
              refine Wk.id ⟨(t + 1, m, l ++ nameD c ++ 45 :: nameD t, a4, c4), ⟨rfl, ?_⟩, ?_, Sub.auto, Sup.auto⟩
              all_goals try dsimp only
              · refine ⟨by omega, by omega, ?_, by simp only [List.length_append, List.length_cons]; omega, by simp, hc5⟩
                rw [← i3, ← k4, if_pos (by omega)]
                simp only [List.append_assoc]
              · omega
            · obtain rfl : t = c := by omega
              repeat (first
                | (show _ ∧ _; exact ⟨rfl, rfl, rfl⟩)
                | refine wkT ?_
                | (show OpOk _ _ _ _ _ _ _; first | refine opB (fun b => ?_) | refine opA (fun a' c' hc1 hc2 => ?_))
                | (show GJ _ _ _ _ _ _ _; first | (apply GJ.and; exact rfl; intro hg) | (apply GJ.or; exact rfl; intro hg)))
              refine Wk.id ⟨(t + 1, m, l ++ nameD t, a3, c3), ⟨rfl, ?_⟩, ?_, Sub.auto, Sup.auto⟩
              all_goals try dsimp only
              · refine ⟨by omega, by omega, ?_, by simp only [List.length_append]; omega, by simp [i5], by rw [List.length_append]; exact hc3⟩
                rw [← i3, ← k4, if_neg (by omega)]
                simp only [List.append_assoc, List.append_nil]
              · omega
        · have k5 : endF s k t = t := by
            cases k with
            | zero => rfl
            | succ k => rw [endF, if_neg (fun hc => ht hc.1)]
          rw [k5] at k4
          repeat (first
            | (show _ ∧ _; exact ⟨rfl, rfl, rfl⟩)
            | refine wkT ?_
            | (show OpOk _ _ _ _ _ _ _; first | refine opB (fun b => ?_) | refine opA (fun a' c' hc1 hc2 => ?_))
            | (show GJ _ _ _ _ _ _ _; first | (apply GJ.and; exact rfl; intro hg) | (apply GJ.or; exact rfl; intro hg)))
          rw [em]
          refine name_ok (u := UInt8.ofNat c) (by simp; omega) ?_
          repeat (first
            | (show _ ∧ _; exact ⟨rfl, rfl, rfl⟩)
            | refine wkT ?_
            | (show OpOk _ _ _ _ _ _ _; first | refine opB (fun b => ?_) | refine opA (fun a' c' hc1 hc2 => ?_))
            | (show GJ _ _ _ _ _ _ _; first | (apply GJ.and; exact rfl; intro hg) | (apply GJ.or; exact rfl; intro hg)))
          refine wstr_ok (.inr rfl) rfl ⟨by omega, by omega⟩ (fun a3 c3 hc3 hc4 => ?_)
          rw [← List.length_append]
          repeat (first
            | (show _ ∧ _; exact ⟨rfl, rfl, rfl⟩)
            | refine wkT ?_
            | (show OpOk _ _ _ _ _ _ _; first | refine opB (fun b => ?_) | refine opA (fun a' c' hc1 hc2 => ?_))
            | (show GJ _ _ _ _ _ _ _; first | (apply GJ.and; exact rfl; intro hg) | (apply GJ.or; exact rfl; intro hg)))
          refine SeqOk.pass ?_
          repeat (first
            | (show _ ∧ _; exact ⟨rfl, rfl, rfl⟩)
            | refine wkT ?_
            | (show OpOk _ _ _ _ _ _ _; first | refine opB (fun b => ?_) | refine opA (fun a' c' hc1 hc2 => ?_))
            | (show GJ _ _ _ _ _ _ _; first | (apply GJ.and; exact rfl; intro hg) | (apply GJ.or; exact rfl; intro hg)))
          refine Br.cases (fun hgt => ?_) (fun hgt => ?_)
          · have em2 : (t : Int) % 256 = ((t : Nat) : Int) := by omega
            repeat (first
              | (show _ ∧ _; exact ⟨rfl, rfl, rfl⟩)
              | refine wkT ?_
              | (show OpOk _ _ _ _ _ _ _; first | refine opB (fun b => ?_) | refine opA (fun a' c' hc1 hc2 => ?_))
              | (show GJ _ _ _ _ _ _ _; first | (apply GJ.and; exact rfl; intro hg) | (apply GJ.or; exact rfl; intro hg)))
            rw [em2]
            refine name_ok (u := UInt8.ofNat t) (by simp; omega) ?_
            repeat (first
              | (show _ ∧ _; exact ⟨rfl, rfl, rfl⟩)
              | refine wkT ?_
              | (show OpOk _ _ _ _ _ _ _; first | refine opB (fun b => ?_) | refine opA (fun a' c' hc1 hc2 => ?_))
              | (show GJ _ _ _ _ _ _ _; first | (apply GJ.and; exact rfl; intro hg) | (apply GJ.or; exact rfl; intro hg)))
            refine ⟨by show 1 + _ ≤ _; omega, ?_⟩
            repeat (first
              | (show _ ∧ _; exact ⟨rfl, rfl, rfl⟩)
              | refine wkT ?_
              | (show OpOk _ _ _ _ _ _ _; first | refine opB (fun b => ?_) | refine opA (fun a' c' hc1 hc2 => ?_))
              | (show GJ _ _ _ _ _ _ _; first | (apply GJ.and; exact rfl; intro hg) | (apply GJ.or; exact rfl; intro hg)))
            refine wstr_ok (l := l ++ nameD c) (m := 45 :: nameD t) (.inr rfl) rfl ⟨by rw [List.length_append]; omega, by rw [List.length_cons]; omega⟩ (fun a4 c4 hc5 hc6 => ?_)
            rw [← List.length_append] at hc5 ⊢
            repeat (first
              | (show _ ∧ _; exact ⟨rfl, rfl, rfl⟩)
              | refine wkT ?_
              | (show OpOk _ _ _ _ _ _ _; first | refine opB (fun b => ?_) | refine opA (fun a' c' hc1 hc2 => ?_))
              | (show GJ _ _ _ _ _ _ _; first | (apply GJ.and; exact rfl; intro hg) | (apply GJ.or; exact rfl; intro hg)))
            refine Wk.id ⟨(t + 1, m, l ++ nameD c ++ 45 :: nameD t, a4, c4), ⟨rfl, ?_⟩, ?_, Sub.auto, Sup.auto⟩
            all_goals try dsimp only
            · refine ⟨by omega, by omega, ?_, by simp only [List.length_append, List.length_cons]; omega, by simp, hc5⟩
              rw [← i3, ← k4, if_pos (by omega)]
              simp only [List.append_assoc]
            · omega
          · obtain rfl : t = c := by omega
            repeat (first
              | (show _ ∧ _; exact ⟨rfl, rfl, rfl⟩)
              | refine wkT ?_
              | (show OpOk _ _ _ _ _ _ _; first | refine opB (fun b => ?_) | refine opA (fun a' c' hc1 hc2 => ?_))
              | (show GJ _ _ _ _ _ _ _; first | (apply GJ.and; exact rfl; intro hg) | (apply GJ.or; exact rfl; intro hg)))
            refine Wk.id ⟨(t + 1, m, l ++ nameD t, a3, c3), ⟨rfl, ?_⟩, ?_, Sub.auto, Sup.auto⟩
            all_goals try dsimp only
            · refine ⟨by omega, by omega, ?_, by simp only [List.length_append]; omega, by simp [i5], by rw [List.length_append]; exact hc3⟩
              rw [← i3, ← k4, if_neg (by omega)]
              simp only [List.append_assoc, List.append_nil]
            · omega

      · rw [if_neg hh] at i3
        rw [Bool.not_eq_true] at hh
        rw [hh]
        repeat (first
          | (show _ ∧ _; exact ⟨rfl, rfl, rfl⟩)
          | refine wkT ?_
          | (show OpOk _ _ _ _ _ _ _; first | refine opB (fun b => ?_) | refine opA (fun a' c' hc1 hc2 => ?_))
          | (show GJ _ _ _ _ _ _ _; first | (apply GJ.and; exact rfl; intro hg) | (apply GJ.or; exact rfl; intro hg)))
        refine Wk.id ⟨(c + 1, m, l, a, cap), ⟨rfl, ?_⟩, ?_, Sub.auto, Sup.auto⟩
        all_goals try dsimp only
        · exact ⟨by omega, by omega, i3, by omega, i5, i6⟩
        · omega
    · obtain rfl : c = 256 := by omega
      have i7 : runsF s m 256 = [] := by
        cases m with
        | zero => rfl
        | succ m => rw [runsF, if_pos (by omega)]
      rw [i7, List.append_nil] at i3
      repeat (first
        | (show _ ∧ _; exact ⟨rfl, rfl, rfl⟩)
        | refine wkT ?_
        | (show OpOk _ _ _ _ _ _ _; first | refine opB (fun b => ?_) | refine opA (fun a' c' hc1 hc2 => ?_))
        | (show GJ _ _ _ _ _ _ _; first | (apply GJ.and; exact rfl; intro hg) | (apply GJ.or; exact rfl; intro hg)))
      refine wbyte_ok (u := 93) (.inr rfl) rfl rfl (by omega) (fun a2 c2 hc3 hc4 => ?_)
      repeat (first
        | (show _ ∧ _; exact ⟨rfl, rfl, rfl⟩)
        | refine wkT ?_
        | (show OpOk _ _ _ _ _ _ _; first | refine opB (fun b => ?_) | refine opA (fun a' c' hc1 hc2 => ?_))
        | (show GJ _ _ _ _ _ _ _; first | (apply GJ.and; exact rfl; intro hg) | (apply GJ.or; exact rfl; intro hg)))
      refine bstr_ok (l := l ++ [93]) (by simp) (by simp) hc3 (by simp; omega) ?_
      repeat (first
        | (show _ ∧ _; exact ⟨rfl, rfl, rfl⟩)
        | refine wkT ?_
        | (show OpOk _ _ _ _ _ _ _; first | refine opB (fun b => ?_) | refine opA (fun a' c' hc1 hc2 => ?_))
        | (show GJ _ _ _ _ _ _ _; first | (apply GJ.and; exact rfl; intro hg) | (apply GJ.or; exact rfl; intro hg)))
      rw [i3]
      exact Wk.outS Sup.auto (.refl _) hk
  · repeat (first
      | (show _ ∧ _; exact ⟨rfl, rfl, rfl⟩)
      | refine wkT ?_
      | (show OpOk _ _ _ _ _ _ _; first | refine opB (fun b => ?_) | refine opA (fun a' c' hc1 hc2 => ?_))
      | (show GJ _ _ _ _ _ _ _; first | (apply GJ.and; exact rfl; intro hg) | (apply GJ.or; exact rfl; intro hg)))
    refine len_ok hs ?_
    repeat (first
      | (show _ ∧ _; exact ⟨rfl, rfl, rfl⟩)
      | refine wkT ?_
      | (show OpOk _ _ _ _ _ _ _; first | refine opB (fun b => ?_) | refine opA (fun a' c' hc1 hc2 => ?_))
      | (show GJ _ _ _ _ _ _ _; first | (apply GJ.and; exact rfl; intro hg) | (apply GJ.or; exact rfl; intro hg)))
    refine Br.cases (fun hl => ?_) (fun hl => ?_)
    · rw [textD, if_neg hne, if_pos (by omega)] at hk
      have hf : (List.range 256).find? s.has = some c := by
        rw [List.find?_range_eq_some]
        exact ⟨h1, List.mem_range.2 hc, fun j hj => by rw [h2 j hj]; rfl⟩
      rw [hf] at hk
      repeat (first
        | (show _ ∧ _; exact ⟨rfl, rfl, rfl⟩)
        | refine wkT ?_
        | (show OpOk _ _ _ _ _ _ _; first | refine opB (fun b => ?_) | refine opA (fun a' c' hc1 hc2 => ?_))
        | (show GJ _ _ _ _ _ _ _; first | (apply GJ.and; exact rfl; intro hg) | (apply GJ.or; exact rfl; intro hg)))
      refine name_ok (u := UInt8.ofNat c) (by simp; omega) ?_
      repeat (first
        | (show _ ∧ _; exact ⟨rfl, rfl, rfl⟩)
        | refine wkT ?_
        | (show OpOk _ _ _ _ _ _ _; first | refine opB (fun b => ?_) | refine opA (fun a' c' hc1 hc2 => ?_))
        | (show GJ _ _ _ _ _ _ _; first | (apply GJ.and; exact rfl; intro hg) | (apply GJ.or; exact rfl; intro hg)))
      exact Wk.outS Sup.auto (.refl _) hk
    · have hT : textD s = 91 :: (runsF s 256 0 ++ [93]) := by rw [textD, if_neg hne, if_neg (by omega)]
      rw [hT] at hk
      repeat (first
        | (show _ ∧ _; exact ⟨rfl, rfl, rfl⟩)
        | refine wkT ?_
        | (show OpOk _ _ _ _ _ _ _; first | refine opB (fun b => ?_) | refine opA (fun a' c' hc1 hc2 => ?_))
        | (show GJ _ _ _ _ _ _ _; first | (apply GJ.and; exact rfl; intro hg) | (apply GJ.or; exact rfl; intro hg)))
      refine CallOk.sup (own0 := .blk b 87 [.pointer none, .slice none 0 0] :: .sl none 0 0 5 1 (([] : List UInt8).map u8) :: .blk p 141 (setV s) :: own) Sup.auto ?_
      refine wbyte_ok (u := 91) (.inl rfl) rfl rfl (by simp) (fun a1 c1 hc1 hc2 => ?_)
      repeat (first
        | (show _ ∧ _; exact ⟨rfl, rfl, rfl⟩)
        | refine wkT ?_
        | (show OpOk _ _ _ _ _ _ _; first | refine opB (fun b => ?_) | refine opA (fun a' c' hc1 hc2 => ?_))
        | (show GJ _ _ _ _ _ _ _; first | (apply GJ.and; exact rfl; intro hg) | (apply GJ.or; exact rfl; intro hg)))
      refine LoopOk.at (ι := Nat × Nat × List UInt8 × Option Addr × Nat) Keep.auto (fun (c, m, l, a, cap) => [(6, .int .i64 (c : Int))]) (fun (c, m, l, a, cap) => .blk b 87 [ptr' b, .slice a l.length cap] :: .sl a l.length cap 5 1 (l.map u8) :: .blk p 141 (setV s) :: own) (fun (c, m, l, a, cap) => c ≤ 256 ∧ 256 ≤ c + m ∧ l ++ runsF s m c = 91 :: runsF s 256 0 ∧ l.length ≤ 12 * c + 1 ∧ l ≠ [] ∧ l.length ≤ cap) (fun (c, m, l, a, cap) => 256 - c) (0, 256, [91], a1, c1) ?_ Sub.auto Sup.auto ?_
      · exact ⟨by omega, by omega, rfl, by simp, by simp, by simpa using hc1⟩
      rintro ⟨c, m, l, a, cap⟩ ⟨i1, i2, i3, i4, i5, i6⟩
      dsimp only [List.cons_append, List.nil_append] at i1 i2 i3 i4 i5 i6 ⊢
      repeat (first
        | (show _ ∧ _; exact ⟨rfl, rfl, rfl⟩)
        | refine wkT ?_
        | (show OpOk _ _ _ _ _ _ _; first | refine opB (fun b => ?_) | refine opA (fun a' c' hc1 hc2 => ?_))
        | (show GJ _ _ _ _ _ _ _; first | (apply GJ.and; exact rfl; intro hg) | (apply GJ.or; exact rfl; intro hg)))
      refine Br.cases (fun hg => ?_) (fun hg => ?_)
      · have em : (c : Int) % 256 = ((c : Nat) : Int) := by omega
        obtain ⟨m, rfl⟩ : ∃ k, m = k + 1 := ⟨m - 1, by omega⟩
        rw [runsF, if_neg (by omega)] at i3
        repeat (first
          | (show _ ∧ _; exact ⟨rfl, rfl, rfl⟩)
          | refine wkT ?_
          | (show OpOk _ _ _ _ _ _ _; first | refine opB (fun b => ?_) | refine opA (fun a' c' hc1 hc2 => ?_))
          | (show GJ _ _ _ _ _ _ _; first | (apply GJ.and; exact rfl; intro hg) | (apply GJ.or; exact rfl; intro hg)))
        refine SeqOk.pass ?_
        repeat (first
          | (show _ ∧ _; exact ⟨rfl, rfl, rfl⟩)
          | refine wkT ?_
          | (show OpOk _ _ _ _ _ _ _; first | refine opB (fun b => ?_) | refine opA (fun a' c' hc1 hc2 => ?_))
          | (show GJ _ _ _ _ _ _ _; first | (apply GJ.and; exact rfl; intro hg) | (apply GJ.or; exact rfl; intro hg)))
        rw [em]
        refine has_ok hs (by omega) ?_
        by_cases hh : s.has c = true
        · rw [hh]
          rw [if_pos hh] at i3
          have hl1 := nameD_len c
          repeat (first
            | (show _ ∧ _; exact ⟨rfl, rfl, rfl⟩)
            | refine wkT ?_
            | (show OpOk _ _ _ _ _ _ _; first | refine opB (fun b => ?_) | refine opA (fun a' c' hc1 hc2 => ?_))
            | (show GJ _ _ _ _ _ _ _; first | (apply GJ.and; exact rfl; intro hg) | (apply GJ.or; exact rfl; intro hg)))
          refine LoopOk.at (ι := Nat × Nat) Keep.auto (fun (t, k) => [(7, .int .i64 (t : Int))]) (fun (t, k) => .blk b 87 [ptr' b, .slice a l.length cap] :: .sl a l.length cap 5 1 (l.map u8) :: .blk p 141 (setV s) :: own) (fun (t, k) => c ≤ t ∧ t ≤ 255 ∧ 255 ≤ t + k ∧ endF s k t = endF s 256 c) (fun (t, k) => 255 - t) (c, 256) ?_ Sub.auto Sup.auto ?_
          · exact ⟨by omega, by omega, by omega, rfl⟩
          rintro ⟨t, k⟩ ⟨k1, k2, k3, k4⟩
          dsimp only [List.cons_append, List.nil_append] at k1 k2 k3 k4 ⊢
          have hl2 := nameD_len t
          by_cases ht : t < 255
          · have em3 : ((t : Int) + 1) % 256 = ((t + 1 : Nat) : Int) := by omega
            obtain ⟨k, rfl⟩ : ∃ j, k = j + 1 := ⟨k - 1, by omega⟩
            rw [endF] at k4
            repeat (first
              | (show _ ∧ _; exact ⟨rfl, rfl, rfl⟩)
              | refine wkT ?_
              | (show OpOk _ _ _ _ _ _ _; first | refine opB (fun b => ?_) | refine opA (fun a' c' hc1 hc2 => ?_))
              | (show GJ _ _ _ _ _ _ _; first | (apply GJ.and; exact rfl; intro hg) | (apply GJ.or; exact rfl; intro hg)))
            rw [em3]
            refine has_ok hs (by omega) ?_
            by_cases hh2 : s.has (t + 1) = true
            · rw [hh2]
              rw [if_pos ⟨ht, hh2⟩] at k4
              repeat (first
                | (show _ ∧ _; exact ⟨rfl, rfl, rfl⟩)
                | refine wkT ?_
                | (show OpOk _ _ _ _ _ _ _; first | refine opB (fun b => ?_) | refine opA (fun a' c' hc1 hc2 => ?_))
                | (show GJ _ _ _ _ _ _ _; first | (apply GJ.and; exact rfl; intro hg) | (apply GJ.or; exact rfl; intro hg)))
              refine Wk.id ⟨(t + 1, k), ⟨rfl, ?_⟩, ?_, Sub.auto, Sup.auto⟩
              all_goals try dsimp only
              · exact ⟨by omega, by omega, by omega, k4⟩
              · omega
            · rw [if_neg (fun hc => hh2 hc.2)] at k4
              rw [Bool.not_eq_true] at hh2
              rw [hh2]
              repeat (first
                | (show _ ∧ _; exact ⟨rfl, rfl, rfl⟩)
                | refine wkT ?_
                | (show OpOk _ _ _ _ _ _ _; first | refine opB (fun b => ?_) | refine opA (fun a' c' hc1 hc2 => ?_))
                | (show GJ _ _ _ _ _ _ _; first | (apply GJ.and; exact rfl; intro hg) | (apply GJ.or; exact rfl; intro hg)))
              rw [em]
              refine name_ok (u := UInt8.ofNat c) (by simp; omega) ?_
              repeat (first
                | (show _ ∧ _; exact ⟨rfl, rfl, rfl⟩)
                | refine wkT ?_
                | (show OpOk _ _ _ _ _ _ _; first | refine opB (fun b => ?_) | refine opA (fun a' c' hc1 hc2 => ?_))
                | (show GJ _ _ _ _ _ _ _; first | (apply GJ.and; exact rfl; intro hg) | (apply GJ.or; exact rfl; intro hg)))
              refine wstr_ok (.inr rfl) rfl ⟨by omega, by omega⟩ (fun a3 c3 hc3 hc4 => ?_)
              rw [← List.length_append]
              repeat (first
                | (show _ ∧ _; exact ⟨rfl, rfl, rfl⟩)
                | refine wkT ?_
                | (show OpOk _ _ _ _ _ _ _; first | refine opB (fun b => ?_) | refine opA (fun a' c' hc1 hc2 => ?_))
                | (show GJ _ _ _ _ _ _ _; first | (apply GJ.and; exact rfl; intro hg) | (apply GJ.or; exact rfl; intro hg)))
              refine SeqOk.pass ?_
              repeat (first
                | (show _ ∧ _; exact ⟨rfl, rfl, rfl⟩)
                | refine wkT ?_
                | (show OpOk _ _ _ _ _ _ _; first | refine opB (fun b => ?_) | refine opA (fun a' c' hc1 hc2 => ?_))
                | (show GJ _ _ _ _ _ _ _; first | (apply GJ.and; exact rfl; intro hg) | (apply GJ.or; exact rfl; intro hg)))
              refine Br.cases (fun hgt => ?_) (fun hgt => ?_)
              · have em2 : (t : Int) % 256 = ((t : Nat) : Int) := by omega
                repeat (first
                  | (show _ ∧ _; exact ⟨rfl, rfl, rfl⟩)
                  | refine wkT ?_
                  | (show OpOk _ _ _ _ _ _ _; first | refine opB (fun b => ?_) | refine opA (fun a' c' hc1 hc2 => ?_))
                  | (show GJ _ _ _ _ _ _ _; first | (apply GJ.and; exact rfl; intro hg) | (apply GJ.or; exact rfl; intro hg)))
                rw [em2]
                refine name_ok (u := UInt8.ofNat t) (by simp; omega) ?_
                repeat (first
                  | (show _ ∧ _; exact ⟨rfl, rfl, rfl⟩)
                  | refine wkT ?_
                  | (show OpOk _ _ _ _ _ _ _; first | refine opB (fun b => ?_) | refine opA (fun a' c' hc1 hc2 => ?_))
                  | (show GJ _ _ _ _ _ _ _; first | (apply GJ.and; exact rfl; intro hg) | (apply GJ.or; exact rfl; intro hg)))
                refine ⟨by show 1 + _ ≤ _; omega, ?_⟩
                repeat (first
                  | (show _ ∧ _; exact ⟨rfl, rfl, rfl⟩)
                  | refine wkT ?_
                  | (show OpOk _ _ _ _ _ _ _; first | refine opB (fun b => ?_) | refine opA (fun a' c' hc1 hc2 => ?_))
                  | (show GJ _ _ _ _ _ _ _; first | (apply GJ.and; exact rfl; intro hg) | (apply GJ.or; exact rfl; intro hg)))
                refine wstr_ok (l := l ++ nameD c) (m := 45 :: nameD t) (.inr rfl) rfl ⟨by rw [List.length_append]; omega, by rw [List.length_cons]; omega⟩ (fun a4 c4 hc5 hc6 => ?_)
                rw [← List.length_append] at hc5 ⊢
                repeat (first
                  | (show _ ∧ _; exact ⟨rfl, rfl, rfl⟩)
                  | refine wkT ?_
                  | (show OpOk _ _ _ _ _ _ _; first | refine opB (fun b => ?_) | refine opA (fun a' c' hc1 hc2 => ?_))
                  | (show GJ _ _ _ _ _ _ _; first | (apply GJ.and; exact rfl; intro hg) | (apply GJ.or; exact rfl; intro hg)))
                refine Wk.id ⟨(t + 1, m, l ++ nameD c ++ 45 :: nameD t, a4, c4), ⟨rfl, ?_⟩, ?_, Sub.auto, Sup.auto⟩
                all_goals try dsimp only
                · refine ⟨by omega, by omega, ?_, by simp only [List.length_append, List.length_cons]; omega, by simp, hc5⟩
                  rw [← i3, ← k4, if_pos (by omega)]
                  simp only [List.append_assoc]
                · omega
              · obtain rfl : t = c := by omega
                repeat (first
                  | (show _ ∧ _; exact ⟨rfl, rfl, rfl⟩)
                  | refine wkT ?_
                  | (show OpOk _ _ _ _ _ _ _; first | refine opB (fun b => ?_) | refine opA (fun a' c' hc1 hc2 => ?_))
                  | (show GJ _ _ _ _ _ _ _; first | (apply GJ.and; exact rfl; intro hg) | (apply GJ.or; exact rfl; intro hg)))
                refine Wk.id ⟨(t + 1, m, l ++ nameD t, a3, c3), ⟨rfl, ?_⟩, ?_, Sub.auto, Sup.auto⟩
                all_goals try dsimp only
                · refine ⟨by omega, by omega, ?_, by simp only [List.length_append]; omega, by simp [i5], by rw [List.length_append]; exact hc3⟩
                  rw [← i3, ← k4, if_neg (by omega)]
                  simp only [List.append_assoc, List.append_nil]
                · omega
          · have k5 : endF s k t = t := by
              cases k with
              | zero => rfl
              | succ k => rw [endF, if_neg (fun hc => ht hc.1)]
            rw [k5] at k4
            repeat (first
              | (show _ ∧ _; exact ⟨rfl, rfl, rfl⟩)
              | refine wkT ?_
              | (show OpOk _ _ _ _ _ _ _; first | refine opB (fun b => ?_) | refine opA (fun a' c' hc1 hc2 => ?_))
              | (show GJ _ _ _ _ _ _ _; first | (apply GJ.and; exact rfl; intro hg) | (apply GJ.or; exact rfl; intro hg)))
            rw [em]
            refine name_ok (u := UInt8.ofNat c) (by simp; omega) ?_
            repeat (first
              | (show _ ∧ _; exact ⟨rfl, rfl, rfl⟩)
              | refine wkT ?_
              | (show OpOk _ _ _ _ _ _ _; first | refine opB (fun b => ?_) | refine opA (fun a' c' hc1 hc2 => ?_))
              | (show GJ _ _ _ _ _ _ _; first | (apply GJ.and; exact rfl; intro hg) | (apply GJ.or; exact rfl; intro hg)))
            refine wstr_ok (.inr rfl) rfl ⟨by omega, by omega⟩ (fun a3 c3 hc3 hc4 => ?_)
            rw [← List.length_append]
            repeat (first
              | (show _ ∧ _; exact ⟨rfl, rfl, rfl⟩)
              | refine wkT ?_
              | (show OpOk _ _ _ _ _ _ _; first | refine opB (fun b => ?_) | refine opA (fun a' c' hc1 hc2 => ?_))
              | (show GJ _ _ _ _ _ _ _; first | (apply GJ.and; exact rfl; intro hg) | (apply GJ.or; exact rfl; intro hg)))
            refine SeqOk.pass ?_
            repeat (first
              | (show _ ∧ _; exact ⟨rfl, rfl, rfl⟩)
              | refine wkT ?_
              | (show OpOk _ _ _ _ _ _ _; first | refine opB (fun b => ?_) | refine opA (fun a' c' hc1 hc2 => ?_))
              | (show GJ _ _ _ _ _ _ _; first | (apply GJ.and; exact rfl; intro hg) | (apply GJ.or; exact rfl; intro hg)))
            refine Br.cases (fun hgt => ?_) (fun hgt => ?_)
            · have em2 : (t : Int) % 256 = ((t : Nat) : Int) := by omega
              repeat (first
                | (show _ ∧ _; exact ⟨rfl, rfl, rfl⟩)
                | refine wkT ?_
                | (show OpOk _ _ _ _ _ _ _; first | refine opB (fun b => ?_) | refine opA (fun a' c' hc1 hc2 => ?_))
                | (show GJ _ _ _ _ _ _ _; first | (apply GJ.and; exact rfl; intro hg) | (apply GJ.or; exact rfl; intro hg)))
              rw [em2]
              refine name_ok (u := UInt8.ofNat t) (by simp; omega) ?_
              repeat (first
                | (show _ ∧ _; exact ⟨rfl, rfl, rfl⟩)
                | refine wkT ?_
                | (show OpOk _ _ _ _ _ _ _; first | refine opB (fun b => ?_) | refine opA (fun a' c' hc1 hc2 => ?_))
                | (show GJ _ _ _ _ _ _ _; first | (apply GJ.and; exact rfl; intro hg) | (apply GJ.or; exact rfl; intro hg)))
              refine ⟨by show 1 + _ ≤ _; omega, ?_⟩
              repeat (first
                | (show _ ∧ _; exact ⟨rfl, rfl, rfl⟩)
                | refine wkT ?_
                | (show OpOk _ _ _ _ _ _ _; first | refine opB (fun b => ?_) | refine opA (fun a' c' hc1 hc2 => ?_))
                | (show GJ _ _ _ _ _ _ _; first | (apply GJ.and; exact rfl; intro hg) | (apply GJ.or; exact rfl; intro hg)))
              refine wstr_ok (l := l ++ nameD c) (m := 45 :: nameD t) (.inr rfl) rfl ⟨by rw [List.length_append]; omega, by rw [List.length_cons]; omega⟩ (fun a4 c4 hc5 hc6 => ?_)
              rw [← List.length_append] at hc5 ⊢
              repeat (first
                | (show _ ∧ _; exact ⟨rfl, rfl, rfl⟩)
                | refine wkT ?_
                | (show OpOk _ _ _ _ _ _ _; first | refine opB (fun b => ?_) | refine opA (fun a' c' hc1 hc2 => ?_))
                | (show GJ _ _ _ _ _ _ _; first | (apply GJ.and; exact rfl; intro hg) | (apply GJ.or; exact rfl; intro hg)))
              refine Wk.id ⟨(t + 1, m, l ++ nameD c ++ 45 :: nameD t, a4, c4), ⟨rfl, ?_⟩, ?_, Sub.auto, Sup.auto⟩
              all_goals try dsimp only
              · refine ⟨by omega, by omega, ?_, by simp only [List.length_append, List.length_cons]; omega, by simp, hc5⟩
                rw [← i3, ← k4, if_pos (by omega)]
                simp only [List.append_assoc]
              · omega
            · obtain rfl : t = c := by omega
              repeat (first
                | (show _ ∧ _; exact ⟨rfl, rfl, rfl⟩)
                | refine wkT ?_
                | (show OpOk _ _ _ _ _ _ _; first | refine opB (fun b => ?_) | refine opA (fun a' c' hc1 hc2 => ?_))
                | (show GJ _ _ _ _ _ _ _; first | (apply GJ.and; exact rfl; intro hg) | (apply GJ.or; exact rfl; intro hg)))
              refine Wk.id ⟨(t + 1, m, l ++ nameD t, a3, c3), ⟨rfl, ?_⟩, ?_, Sub.auto, Sup.auto⟩
              all_goals try dsimp only
              · refine ⟨by omega, by omega, ?_, by simp only [List.length_append]; omega, by simp [i5], by rw [List.length_append]; exact hc3⟩
                rw [← i3, ← k4, if_neg (by omega)]
                simp only [List.append_assoc, List.append_nil]
              · omega

        · rw [if_neg hh] at i3
          rw [Bool.not_eq_true] at hh
          rw [hh]
          repeat (first
            | (show _ ∧ _; exact ⟨rfl, rfl, rfl⟩)
            | refine wkT ?_
            | (show OpOk _ _ _ _ _ _ _; first | refine opB (fun b => ?_) | refine opA (fun a' c' hc1 hc2 => ?_))
            | (show GJ _ _ _ _ _ _ _; first | (apply GJ.and; exact rfl; intro hg) | (apply GJ.or; exact rfl; intro hg)))
          refine Wk.id ⟨(c + 1, m, l, a, cap), ⟨rfl, ?_⟩, ?_, Sub.auto, Sup.auto⟩
          all_goals try dsimp only
          · exact ⟨by omega, by omega, i3, by omega, i5, i6⟩
          · omega
      · obtain rfl : c = 256 := by omega
        have i7 : runsF s m 256 = [] := by
          cases m with
          | zero => rfl
          | succ m => rw [runsF, if_pos (by omega)]
        rw [i7, List.append_nil] at i3
        repeat (first
          | (show _ ∧ _; exact ⟨rfl, rfl, rfl⟩)
          | refine wkT ?_
          | (show OpOk _ _ _ _ _ _ _; first | refine opB (fun b => ?_) | refine opA (fun a' c' hc1 hc2 => ?_))
          | (show GJ _ _ _ _ _ _ _; first | (apply GJ.and; exact rfl; intro hg) | (apply GJ.or; exact rfl; intro hg)))
        refine wbyte_ok (u := 93) (.inr rfl) rfl rfl (by omega) (fun a2 c2 hc3 hc4 => ?_)
        repeat (first
          | (show _ ∧ _; exact ⟨rfl, rfl, rfl⟩)
          | refine wkT ?_
          | (show OpOk _ _ _ _ _ _ _; first | refine opB (fun b => ?_) | refine opA (fun a' c' hc1 hc2 => ?_))
          | (show GJ _ _ _ _ _ _ _; first | (apply GJ.and; exact rfl; intro hg) | (apply GJ.or; exact rfl; intro hg)))
        refine bstr_ok (l := l ++ [93]) (by simp) (by simp) hc3 (by simp; omega) ?_
        repeat (first
          | (show _ ∧ _; exact ⟨rfl, rfl, rfl⟩)
          | refine wkT ?_
          | (show OpOk _ _ _ _ _ _ _; first | refine opB (fun b => ?_) | refine opA (fun a' c' hc1 hc2 => ?_))
          | (show GJ _ _ _ _ _ _ _; first | (apply GJ.and; exact rfl; intro hg) | (apply GJ.or; exact rfl; intro hg)))
        rw [i3]
        exact Wk.outS Sup.auto (.refl _) hk
end
end Go.Proofs.YtniofdklhlbphaaDoor
