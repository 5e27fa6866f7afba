/- Contracts of slices: clones. -/
import Derived.Test.YtniofdklhlbphaaT
namespace Go.Proofs.Ytniofdklhlbphaa
open Go Go.E
set_option linter.unusedVariables false
set_option maxRecDepth 10000
section
variable {ro : Ro} {own r : Chs} {K : Value → Ro → Chs → Prop} {g : Chunk → Chs}
theorem cloneI_ok {a : Option Addr} {n c : Nat} {cs : List Value} (hr : Rs ro a n c 1 cs) (h1 : ∀ u ∈ cs, u.oneCell' = true) (hn : n ≤ 100000000) (hk : ∀ a' c', n ≤ c' → c' ≤ maxLen → K (.slice a' n c') ro (.sl a' n c' 3 1 cs :: own)) :
    CallOk Try.prog 29 #[.slice a n c] ro own K := by
  have hln := hr.len
  have hle := hr.le
  refine CallOk.given (fun hsat => ?_)
  refine CallOk.intro (args := [_]) (rs := [_]) T_ok Try.func29 Try.call29 rfl rfl (by kernel_rfl) rfl rfl ?_
  repeat (first
    | (show _ ∧ _; exact ⟨rfl, rfl, rfl⟩)
    | refine wkG ?_
    | (show OpOk _ _ _ _ _ _ _; first | refine opB (fun b => ?_) | refine opA (fun a' c' hc1 hc2 => ?_))
    | (show GJ _ _ _ _ _ _ _; first | (apply GJ.and; exact rfl; intro hg) | (apply GJ.or; exact rfl; intro hg) | refine GJ.t omAuto ?_ | refine GJ.f omAuto ?_ | refine GJ.ft omAuto ?_ | refine GJ.ff omAuto ?_))
  refine Br.cases (fun hc => ?_) (fun hc => ?_)
  · subst hc
    have hn0 := hr.nilN hsat
    subst hn0
    obtain rfl : cs = [] := List.eq_nil_of_length_eq_zero (by omega)
    repeat (first
      | (show _ ∧ _; exact ⟨rfl, rfl, rfl⟩)
      | refine wkG ?_
      | (show OpOk _ _ _ _ _ _ _; first | refine opB (fun b => ?_) | refine opA (fun a' c' hc1 hc2 => ?_))
      | (show GJ _ _ _ _ _ _ _; first | (apply GJ.and; exact rfl; intro hg) | (apply GJ.or; exact rfl; intro hg) | refine GJ.t omAuto ?_ | refine GJ.f omAuto ?_ | refine GJ.ft omAuto ?_ | refine GJ.ff omAuto ?_))
    exact Wk.outS (Sup.nilc (Sup.all _)) (.refl _) (hk none 0 (Nat.le_refl _) (Nat.zero_le _))
  · repeat (first
      | (show _ ∧ _; exact ⟨rfl, rfl, rfl⟩)
      | refine wkG ?_
      | (show OpOk _ _ _ _ _ _ _; first | refine opB (fun b => ?_) | refine opA (fun a' c' hc1 hc2 => ?_))
      | (show GJ _ _ _ _ _ _ _; first | (apply GJ.and; exact rfl; intro hg) | (apply GJ.or; exact rfl; intro hg) | refine GJ.t omAuto ?_ | refine GJ.f omAuto ?_ | refine GJ.ft omAuto ?_ | refine GJ.ff omAuto ?_))
    exact Wk.id (hk _ _ (by omega) (by omega))
theorem cloneB_ok {a : Option Addr} {n c : Nat} {cs : List Value} (hr : Rs ro a n c 1 cs) (h1 : ∀ u ∈ cs, u.oneCell' = true) (hn : n ≤ 100000000) (hk : ∀ a' c', n ≤ c' → c' ≤ maxLen → K (.slice a' n c') ro (.sl a' n c' 4 1 cs :: own)) :
    CallOk Try.prog 57 #[.slice a n c] ro own K := by
  have hln := hr.len
  have hle := hr.le
  refine CallOk.given (fun hsat => ?_)
  refine CallOk.intro (args := [_]) (rs := [_]) T_ok Try.func57 Try.call57 rfl rfl (by kernel_rfl) rfl rfl ?_
  repeat (first
    | (show _ ∧ _; exact ⟨rfl, rfl, rfl⟩)
    | refine wkG ?_
    | (show OpOk _ _ _ _ _ _ _; first | refine opB (fun b => ?_) | refine opA (fun a' c' hc1 hc2 => ?_))
    | (show GJ _ _ _ _ _ _ _; first | (apply GJ.and; exact rfl; intro hg) | (apply GJ.or; exact rfl; intro hg) | refine GJ.t omAuto ?_ | refine GJ.f omAuto ?_ | refine GJ.ft omAuto ?_ | refine GJ.ff omAuto ?_))
  refine Br.cases (fun hc => ?_) (fun hc => ?_)
  · subst hc
    have hn0 := hr.nilN hsat
    subst hn0
    obtain rfl : cs = [] := List.eq_nil_of_length_eq_zero (by omega)
    repeat (first
      | (show _ ∧ _; exact ⟨rfl, rfl, rfl⟩)
      | refine wkG ?_
      | (show OpOk _ _ _ _ _ _ _; first | refine opB (fun b => ?_) | refine opA (fun a' c' hc1 hc2 => ?_))
      | (show GJ _ _ _ _ _ _ _; first | (apply GJ.and; exact rfl; intro hg) | (apply GJ.or; exact rfl; intro hg) | refine GJ.t omAuto ?_ | refine GJ.f omAuto ?_ | refine GJ.ft omAuto ?_ | refine GJ.ff omAuto ?_))
    exact Wk.outS (Sup.nilc (Sup.all _)) (.refl _) (hk none 0 (Nat.le_refl _) (Nat.zero_le _))
  · repeat (first
      | (show _ ∧ _; exact ⟨rfl, rfl, rfl⟩)
      | refine wkG ?_
      | (show OpOk _ _ _ _ _ _ _; first | refine opB (fun b => ?_) | refine opA (fun a' c' hc1 hc2 => ?_))
      | (show GJ _ _ _ _ _ _ _; first | (apply GJ.and; exact rfl; intro hg) | (apply GJ.or; exact rfl; intro hg) | refine GJ.t omAuto ?_ | refine GJ.f omAuto ?_ | refine GJ.ft omAuto ?_ | refine GJ.ff omAuto ?_))
    exact Wk.id (hk _ _ (by omega) (by omega))
theorem cloneF_ok {a : Option Addr} {n c : Nat} {cs : List Value} (hr : Rs ro a n c 5 cs) (h1 : ∀ u ∈ cs, u.oneCell' = true) (hn : n ≤ 100000000) (hk : ∀ a' c', n ≤ c' → c' ≤ maxLen → K (.slice a' n c') ro (.sl a' n c' 51 5 cs :: own)) :
    CallOk Try.prog 59 #[.slice a n c] ro own K := by
  have hln := hr.len
  have hle := hr.le
  refine CallOk.given (fun hsat => ?_)
  refine CallOk.intro (args := [_]) (rs := [_]) T_ok Try.func59 Try.call59 rfl rfl (by kernel_rfl) rfl rfl ?_
  repeat (first
    | (show _ ∧ _; exact ⟨rfl, rfl, rfl⟩)
    | refine wkG ?_
    | (show OpOk _ _ _ _ _ _ _; first | refine opB (fun b => ?_) | refine opA (fun a' c' hc1 hc2 => ?_))
    | (show GJ _ _ _ _ _ _ _; first | (apply GJ.and; exact rfl; intro hg) | (apply GJ.or; exact rfl; intro hg) | refine GJ.t omAuto ?_ | refine GJ.f omAuto ?_ | refine GJ.ft omAuto ?_ | refine GJ.ff omAuto ?_))
  refine Br.cases (fun hc => ?_) (fun hc => ?_)
  · subst hc
    have hn0 := hr.nilN hsat
    subst hn0
    obtain rfl : cs = [] := List.eq_nil_of_length_eq_zero (by omega)
    repeat (first
      | (show _ ∧ _; exact ⟨rfl, rfl, rfl⟩)
      | refine wkG ?_
      | (show OpOk _ _ _ _ _ _ _; first | refine opB (fun b => ?_) | refine opA (fun a' c' hc1 hc2 => ?_))
      | (show GJ _ _ _ _ _ _ _; first | (apply GJ.and; exact rfl; intro hg) | (apply GJ.or; exact rfl; intro hg) | refine GJ.t omAuto ?_ | refine GJ.f omAuto ?_ | refine GJ.ft omAuto ?_ | refine GJ.ff omAuto ?_))
    exact Wk.outS (Sup.nilc (Sup.all _)) (.refl _) (hk none 0 (Nat.le_refl _) (Nat.zero_le _))
  · repeat (first
      | (show _ ∧ _; exact ⟨rfl, rfl, rfl⟩)
      | refine wkG ?_
      | (show OpOk _ _ _ _ _ _ _; first | refine opB (fun b => ?_) | refine opA (fun a' c' hc1 hc2 => ?_))
      | (show GJ _ _ _ _ _ _ _; first | (apply GJ.and; exact rfl; intro hg) | (apply GJ.or; exact rfl; intro hg) | refine GJ.t omAuto ?_ | refine GJ.f omAuto ?_ | refine GJ.ft omAuto ?_ | refine GJ.ff omAuto ?_))
    exact Wk.id (hk _ _ (by omega) (by omega))
theorem cloneC_ok {a : Option Addr} {n c : Nat} {cs : List Value} (hr : Rs ro a n c 2 cs) (h1 : ∀ u ∈ cs, u.oneCell' = true) (hn : n ≤ 100000000) (hk : ∀ a' c', n ≤ c' → c' ≤ maxLen → K (.slice a' n c') ro (.sl a' n c' 73 2 cs :: own)) :
    CallOk Try.prog 61 #[.slice a n c] ro own K := by
  have hln := hr.len
  have hle := hr.le
  refine CallOk.given (fun hsat => ?_)
  refine CallOk.intro (args := [_]) (rs := [_]) T_ok Try.func61 Try.call61 rfl rfl (by kernel_rfl) rfl rfl ?_
  repeat (first
    | (show _ ∧ _; exact ⟨rfl, rfl, rfl⟩)
    | refine wkG ?_
    | (show OpOk _ _ _ _ _ _ _; first | refine opB (fun b => ?_) | refine opA (fun a' c' hc1 hc2 => ?_))
    | (show GJ _ _ _ _ _ _ _; first | (apply GJ.and; exact rfl; intro hg) | (apply GJ.or; exact rfl; intro hg) | refine GJ.t omAuto ?_ | refine GJ.f omAuto ?_ | refine GJ.ft omAuto ?_ | refine GJ.ff omAuto ?_))
  refine Br.cases (fun hc => ?_) (fun hc => ?_)
  · subst hc
    have hn0 := hr.nilN hsat
    subst hn0
    obtain rfl : cs = [] := List.eq_nil_of_length_eq_zero (by omega)
    repeat (first
      | (show _ ∧ _; exact ⟨rfl, rfl, rfl⟩)
      | refine wkG ?_
      | (show OpOk _ _ _ _ _ _ _; first | refine opB (fun b => ?_) | refine opA (fun a' c' hc1 hc2 => ?_))
      | (show GJ _ _ _ _ _ _ _; first | (apply GJ.and; exact rfl; intro hg) | (apply GJ.or; exact rfl; intro hg) | refine GJ.t omAuto ?_ | refine GJ.f omAuto ?_ | refine GJ.ft omAuto ?_ | refine GJ.ff omAuto ?_))
    exact Wk.outS (Sup.nilc (Sup.all _)) (.refl _) (hk none 0 (Nat.le_refl _) (Nat.zero_le _))
  · repeat (first
      | (show _ ∧ _; exact ⟨rfl, rfl, rfl⟩)
      | refine wkG ?_
      | (show OpOk _ _ _ _ _ _ _; first | refine opB (fun b => ?_) | refine opA (fun a' c' hc1 hc2 => ?_))
      | (show GJ _ _ _ _ _ _ _; first | (apply GJ.and; exact rfl; intro hg) | (apply GJ.or; exact rfl; intro hg) | refine GJ.t omAuto ?_ | refine GJ.f omAuto ?_ | refine GJ.ft omAuto ?_ | refine GJ.ff omAuto ?_))
    exact Wk.id (hk _ _ (by omega) (by omega))
theorem cloneD_ok {a : Option Addr} {n c : Nat} {cs : List Value} (hr : Rs ro a n c 2 cs) (h1 : ∀ u ∈ cs, u.oneCell' = true) (hn : n ≤ 100000000) (hk : ∀ a' c', n ≤ c' → c' ≤ maxLen → K (.slice a' n c') ro (.sl a' n c' 32 2 cs :: own)) :
    CallOk Try.prog 27 #[.slice a n c] ro own K := by
  have hln := hr.len
  have hle := hr.le
  refine CallOk.given (fun hsat => ?_)
  refine CallOk.intro (args := [_]) (rs := [_]) T_ok Try.func27 Try.call27 rfl rfl (by kernel_rfl) rfl rfl ?_
  repeat (first
    | (show _ ∧ _; exact ⟨rfl, rfl, rfl⟩)
    | refine wkG ?_
    | (show OpOk _ _ _ _ _ _ _; first | refine opB (fun b => ?_) | refine opA (fun a' c' hc1 hc2 => ?_))
    | (show GJ _ _ _ _ _ _ _; first | (apply GJ.and; exact rfl; intro hg) | (apply GJ.or; exact rfl; intro hg) | refine GJ.t omAuto ?_ | refine GJ.f omAuto ?_ | refine GJ.ft omAuto ?_ | refine GJ.ff omAuto ?_))
  refine Br.cases (fun hc => ?_) (fun hc => ?_)
  · subst hc
    have hn0 := hr.nilN hsat
    subst hn0
    obtain rfl : cs = [] := List.eq_nil_of_length_eq_zero (by omega)
    repeat (first
      | (show _ ∧ _; exact ⟨rfl, rfl, rfl⟩)
      | refine wkG ?_
      | (show OpOk _ _ _ _ _ _ _; first | refine opB (fun b => ?_) | refine opA (fun a' c' hc1 hc2 => ?_))
      | (show GJ _ _ _ _ _ _ _; first | (apply GJ.and; exact rfl; intro hg) | (apply GJ.or; exact rfl; intro hg) | refine GJ.t omAuto ?_ | refine GJ.f omAuto ?_ | refine GJ.ft omAuto ?_ | refine GJ.ff omAuto ?_))
    exact Wk.outS (Sup.nilc (Sup.all _)) (.refl _) (hk none 0 (Nat.le_refl _) (Nat.zero_le _))
  · repeat (first
      | (show _ ∧ _; exact ⟨rfl, rfl, rfl⟩)
      | refine wkG ?_
      | (show OpOk _ _ _ _ _ _ _; first | refine opB (fun b => ?_) | refine opA (fun a' c' hc1 hc2 => ?_))
      | (show GJ _ _ _ _ _ _ _; first | (apply GJ.and; exact rfl; intro hg) | (apply GJ.or; exact rfl; intro hg) | refine GJ.t omAuto ?_ | refine GJ.f omAuto ?_ | refine GJ.ft omAuto ?_ | refine GJ.ff omAuto ?_))
    exact Wk.id (hk _ _ (by omega) (by omega))
end
end Go.Proofs.Ytniofdklhlbphaa
