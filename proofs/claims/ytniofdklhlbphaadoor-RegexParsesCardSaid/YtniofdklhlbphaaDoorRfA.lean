/- Contracts of the reference parser: Has Put All digit Name Skip. -/
import Derived.Test.YtniofdklhlbphaaDoorRxC
import Derived.Test.YtniofdklhlbphaaDoorRg6
namespace Go.Proofs.YtniofdklhlbphaaDoor
open Go Go.E
set_option linter.unusedVariables false
set_option linter.unusedSimpArgs false
set_option maxRecDepth 10000
theorem u8_ne {c d : UInt8} (h : c ≠ d) : c.toNat ≠ d.toNat := fun e => h (UInt8.toNat_inj.1 e)
theorem hexN_lt {c v : Nat} (h : hexN c = some v) : v < 16 := by
  unfold hexN at h
  split at h
  · rename_i h1
    unfold isDig at h1
    have h2 : 48 ≤ c ∧ c ≤ 57 := by simpa using h1
    cases h; omega
  · split at h
    · cases h; omega
    · cases h
theorem get0 (a : UInt8) (l : List UInt8) : (a :: l)[Int.toNat 0]! = a := rfl
theorem get1 (a b : UInt8) (l : List UInt8) : (a :: b :: l)[Int.toNat 1]! = b := rfl
theorem get2 (a b c : UInt8) (l : List UInt8) : (a :: b :: c :: l)[Int.toNat 2]! = c := rfl
theorem get3 (a b c d : UInt8) (l : List UInt8) : (a :: b :: c :: d :: l)[Int.toNat 3]! = d := rfl
section
variable {ro : Ro} {own r : Chs} {K : Value → Ro → Chs → Prop} {g : Chunk → Chs}
theorem rhas_ok {s : SetD} {c : Nat} (hs : SetIn s) (hc : c < 256) (hk : K (.bool (s.has c)) ro own) : CallOk Tryd.prog 125 #[.agg (setV s).toArray, .int .u8 (c : Int)] ro own K := by
  have hw := hs (c / 64)
  have hd : s.w (c / 64) / 2 ^ (c % 64) < 18446744073709551616 := Nat.lt_of_le_of_lt (Nat.div_le_self _ _) hw
  have e : (c : Int) / 64 = ((c / 64 : Nat) : Int) := by omega
  refine CallOk.intro (args := [_, _]) (rs := [_]) T_ok Tryd.func125 Tryd.call125 rfl rfl (by kernel_rfl) rfl rfl ?_
  repeat (first
    | (show _ ∧ _; exact ⟨rfl, rfl, rfl⟩)
    | refine wkP ?_
    | (show OpOk _ _ _ _ _ _ _; first | refine opB (fun b => ?_) | refine opA (fun a' c' hc1 hc2 => ?_))
    | (show GJ _ _ _ _ _ _ _; first | (apply GJ.and; exact rfl; intro hg) | (apply GJ.or; exact rfl; intro hg)))
  rw [e]
  refine OpOk.load rfl rfl (Ld.setAt s rfl (k := c / 64) (by omega) (by omega)) ?_
  repeat (first
    | (show _ ∧ _; exact ⟨rfl, rfl, rfl⟩)
    | refine wkP ?_
    | (show OpOk _ _ _ _ _ _ _; first | refine opB (fun b => ?_) | refine opA (fun a' c' hc1 hc2 => ?_))
    | (show GJ _ _ _ _ _ _ _; first | (apply GJ.and; exact rfl; intro hg) | (apply GJ.or; exact rfl; intro hg)))
  rw [show (c : Int) % 64 = ((c % 64 : Nat) : Int) by omega, shrN]
  generalize hq : s.w (c / 64) / 2 ^ (c % 64) = q at hd ⊢
  refine ⟨by omega, ?_⟩
  repeat (first
    | (show _ ∧ _; exact ⟨rfl, rfl, rfl⟩)
    | refine wkP ?_
    | (show OpOk _ _ _ _ _ _ _; first | refine opB (fun b => ?_) | refine opA (fun a' c' hc1 hc2 => ?_))
    | (show GJ _ _ _ _ _ _ _; first | (apply GJ.and; exact rfl; intro hg) | (apply GJ.or; exact rfl; intro hg)))
  refine Wk.outV Sup.auto hk (congrArg Value.bool ?_)
  rw [SetD.has, ← testBit_div, hq, Bool.eq_iff_iff, decide_eq_true_iff, decide_eq_true_iff]
  omega
theorem rdigit_ok {c v : Nat} (h : hexN c = some v) (hk : K (.int .u8 (v : Int)) ro own) : CallOk Tryd.prog 126 #[.int .u8 (c : Int)] ro own K := by
  unfold hexN at h
  by_cases h1 : isDig c = true
  · rw [if_pos h1] at h
    cases h
    unfold isDig at h1
    have h2 : 48 ≤ c ∧ c ≤ 57 := by simpa using h1
    refine CallOk.intro (args := [_]) (rs := [_]) T_ok Tryd.func126 Tryd.call126 rfl rfl (by kernel_rfl) rfl rfl ?_
    repeat (first
      | (show _ ∧ _; exact ⟨rfl, rfl, rfl⟩)
      | refine wkP ?_
      | (show OpOk _ _ _ _ _ _ _; first | refine opB (fun b => ?_) | refine opA (fun a' c' hc1 hc2 => ?_))
      | (show GJ _ _ _ _ _ _ _; first | (apply GJ.and; exact rfl; intro hg) | (apply GJ.or; exact rfl; intro hg)))
    exact Wk.outV Sup.auto hk (congrArg (Value.int .u8) (by omega))
  · rw [if_neg h1] at h
    split at h
    · rename_i h3
      cases h
      refine CallOk.intro (args := [_]) (rs := [_]) T_ok Tryd.func126 Tryd.call126 rfl rfl (by kernel_rfl) rfl rfl ?_
      repeat (first
        | (show _ ∧ _; exact ⟨rfl, rfl, rfl⟩)
        | refine wkP ?_
        | (show OpOk _ _ _ _ _ _ _; first | refine opB (fun b => ?_) | refine opA (fun a' c' hc1 hc2 => ?_))
        | (show GJ _ _ _ _ _ _ _; first | (apply GJ.and; exact rfl; intro hg) | (apply GJ.or; exact rfl; intro hg)))
      exact Wk.outV Sup.auto hk (congrArg (Value.int .u8) (by omega))
    · cases h
theorem rname_ok {l : List UInt8} {c : Nat} (h : DByte l c) (hk : K (.int .u8 (c : Int)) ro own) : CallOk Tryd.prog 106 #[str l] ro own K := by
  cases h with
  | @plain c h1 h2 =>
    refine CallOk.intro (args := [_]) (rs := [_]) T_ok Tryd.func106 Tryd.call106 rfl rfl (by kernel_rfl) rfl rfl ?_
    repeat (first
      | (show _ ∧ _; exact ⟨rfl, rfl, rfl⟩)
      | refine wkP ?_
      | (show OpOk _ _ _ _ _ _ _; first | refine opB (fun b => ?_) | refine opA (fun a' c' hc1 hc2 => ?_))
      | (show GJ _ _ _ _ _ _ _; first | (apply GJ.and; exact rfl; intro hg) | (apply GJ.or; exact rfl; intro hg)))
    refine ⟨⟨by omega, by simp only [List.length_append, List.length_cons, List.length_nil]; omega⟩, ?_⟩
    simp only [get0, get1, get2, get3]
    repeat (first
      | (show _ ∧ _; exact ⟨rfl, rfl, rfl⟩)
      | refine wkP ?_
      | (show OpOk _ _ _ _ _ _ _; first | refine opB (fun b => ?_) | refine opA (fun a' c' hc1 hc2 => ?_))
      | (show GJ _ _ _ _ _ _ _; first | (apply GJ.and; exact rfl; intro hg) | (apply GJ.or; exact rfl; intro hg)))
    refine ⟨⟨by omega, by simp only [List.length_append, List.length_cons, List.length_nil]; omega⟩, ?_⟩
    simp only [get0, get1, get2, get3]
    repeat (first
      | (show _ ∧ _; exact ⟨rfl, rfl, rfl⟩)
      | refine wkP ?_
      | (show OpOk _ _ _ _ _ _ _; first | refine opB (fun b => ?_) | refine opA (fun a' c' hc1 hc2 => ?_))
      | (show GJ _ _ _ _ _ _ _; first | (apply GJ.and; exact rfl; intro hg) | (apply GJ.or; exact rfl; intro hg)))
    exact Wk.outS Sup.auto (.refl _) hk
  | @esc x v hv =>
    refine CallOk.intro (args := [_]) (rs := [_]) T_ok Tryd.func106 Tryd.call106 rfl rfl (by kernel_rfl) rfl rfl ?_
    repeat (first
      | (show _ ∧ _; exact ⟨rfl, rfl, rfl⟩)
      | refine wkP ?_
      | (show OpOk _ _ _ _ _ _ _; first | refine opB (fun b => ?_) | refine opA (fun a' c' hc1 hc2 => ?_))
      | (show GJ _ _ _ _ _ _ _; first | (apply GJ.and; exact rfl; intro hg) | (apply GJ.or; exact rfl; intro hg)))
    refine ⟨⟨by omega, by simp only [List.length_append, List.length_cons, List.length_nil]; omega⟩, ?_⟩
    simp only [get0, get1, get2, get3]
    repeat (first
      | (show _ ∧ _; exact ⟨rfl, rfl, rfl⟩)
      | refine wkP ?_
      | (show OpOk _ _ _ _ _ _ _; first | refine opB (fun b => ?_) | refine opA (fun a' c' hc1 hc2 => ?_))
      | (show GJ _ _ _ _ _ _ _; first | (apply GJ.and; exact rfl; intro hg) | (apply GJ.or; exact rfl; intro hg)))
    refine ⟨⟨by omega, by simp only [List.length_append, List.length_cons, List.length_nil]; omega⟩, ?_⟩
    simp only [get0, get1, get2, get3]
    repeat (first
      | (show _ ∧ _; exact ⟨rfl, rfl, rfl⟩)
      | refine wkP ?_
      | (show OpOk _ _ _ _ _ _ _; first | refine opB (fun b => ?_) | refine opA (fun a' c' hc1 hc2 => ?_))
      | (show GJ _ _ _ _ _ _ _; first | (apply GJ.and; exact rfl; intro hg) | (apply GJ.or; exact rfl; intro hg)))
    unfold escN at hv
    by_cases h1 : x.toNat = 110
    · rw [if_pos h1] at hv
      cases hv
      refine Br.t (by omega) ?_
      repeat (first
        | (show _ ∧ _; exact ⟨rfl, rfl, rfl⟩)
        | refine wkP ?_
        | (show OpOk _ _ _ _ _ _ _; first | refine opB (fun b => ?_) | refine opA (fun a' c' hc1 hc2 => ?_))
        | (show GJ _ _ _ _ _ _ _; first | (apply GJ.and; exact rfl; intro hg) | (apply GJ.or; exact rfl; intro hg)))
      exact Wk.outS Sup.auto (.refl _) hk
    rw [if_neg h1] at hv
    refine Br.f (by omega) ?_
    repeat (first
      | (show _ ∧ _; exact ⟨rfl, rfl, rfl⟩)
      | refine wkP ?_
      | (show OpOk _ _ _ _ _ _ _; first | refine opB (fun b => ?_) | refine opA (fun a' c' hc1 hc2 => ?_))
      | (show GJ _ _ _ _ _ _ _; first | (apply GJ.and; exact rfl; intro hg) | (apply GJ.or; exact rfl; intro hg)))
    by_cases h2 : x.toNat = 114
    · rw [if_pos h2] at hv
      cases hv
      refine Br.t (by omega) ?_
      repeat (first
        | (show _ ∧ _; exact ⟨rfl, rfl, rfl⟩)
        | refine wkP ?_
        | (show OpOk _ _ _ _ _ _ _; first | refine opB (fun b => ?_) | refine opA (fun a' c' hc1 hc2 => ?_))
        | (show GJ _ _ _ _ _ _ _; first | (apply GJ.and; exact rfl; intro hg) | (apply GJ.or; exact rfl; intro hg)))
      exact Wk.outS Sup.auto (.refl _) hk
    rw [if_neg h2] at hv
    refine Br.f (by omega) ?_
    repeat (first
      | (show _ ∧ _; exact ⟨rfl, rfl, rfl⟩)
      | refine wkP ?_
      | (show OpOk _ _ _ _ _ _ _; first | refine opB (fun b => ?_) | refine opA (fun a' c' hc1 hc2 => ?_))
      | (show GJ _ _ _ _ _ _ _; first | (apply GJ.and; exact rfl; intro hg) | (apply GJ.or; exact rfl; intro hg)))
    by_cases h3 : x.toNat = 116
    · rw [if_pos h3] at hv
      cases hv
      refine Br.t (by omega) ?_
      repeat (first
        | (show _ ∧ _; exact ⟨rfl, rfl, rfl⟩)
        | refine wkP ?_
        | (show OpOk _ _ _ _ _ _ _; first | refine opB (fun b => ?_) | refine opA (fun a' c' hc1 hc2 => ?_))
        | (show GJ _ _ _ _ _ _ _; first | (apply GJ.and; exact rfl; intro hg) | (apply GJ.or; exact rfl; intro hg)))
      exact Wk.outS Sup.auto (.refl _) hk
    rw [if_neg h3] at hv
    refine Br.f (by omega) ?_
    repeat (first
      | (show _ ∧ _; exact ⟨rfl, rfl, rfl⟩)
      | refine wkP ?_
      | (show OpOk _ _ _ _ _ _ _; first | refine opB (fun b => ?_) | refine opA (fun a' c' hc1 hc2 => ?_))
      | (show GJ _ _ _ _ _ _ _; first | (apply GJ.and; exact rfl; intro hg) | (apply GJ.or; exact rfl; intro hg)))
    by_cases h4 : x.toNat = 48
    · rw [if_pos h4] at hv
      cases hv
      refine Br.t (by omega) ?_
      repeat (first
        | (show _ ∧ _; exact ⟨rfl, rfl, rfl⟩)
        | refine wkP ?_
        | (show OpOk _ _ _ _ _ _ _; first | refine opB (fun b => ?_) | refine opA (fun a' c' hc1 hc2 => ?_))
        | (show GJ _ _ _ _ _ _ _; first | (apply GJ.and; exact rfl; intro hg) | (apply GJ.or; exact rfl; intro hg)))
      exact Wk.outS Sup.auto (.refl _) hk
    rw [if_neg h4] at hv
    cases hv
  | @hex x y a b h1 h2 =>
    refine CallOk.intro (args := [_]) (rs := [_]) T_ok Tryd.func106 Tryd.call106 rfl rfl (by kernel_rfl) rfl rfl ?_
    repeat (first
      | (show _ ∧ _; exact ⟨rfl, rfl, rfl⟩)
      | refine wkP ?_
      | (show OpOk _ _ _ _ _ _ _; first | refine opB (fun b => ?_) | refine opA (fun a' c' hc1 hc2 => ?_))
      | (show GJ _ _ _ _ _ _ _; first | (apply GJ.and; exact rfl; intro hg) | (apply GJ.or; exact rfl; intro hg)))
    have ha := hexN_lt h1
    have hb := hexN_lt h2
    refine ⟨⟨by omega, by simp only [List.length_append, List.length_cons, List.length_nil]; omega⟩, ?_⟩
    simp only [get0, get1, get2, get3]
    repeat (first
      | (show _ ∧ _; exact ⟨rfl, rfl, rfl⟩)
      | refine wkP ?_
      | (show OpOk _ _ _ _ _ _ _; first | refine opB (fun b => ?_) | refine opA (fun a' c' hc1 hc2 => ?_))
      | (show GJ _ _ _ _ _ _ _; first | (apply GJ.and; exact rfl; intro hg) | (apply GJ.or; exact rfl; intro hg)))
    refine ⟨⟨by omega, by simp only [List.length_append, List.length_cons, List.length_nil]; omega⟩, ?_⟩
    simp only [get0, get1, get2, get3]
    repeat (first
      | (show _ ∧ _; exact ⟨rfl, rfl, rfl⟩)
      | refine wkP ?_
      | (show OpOk _ _ _ _ _ _ _; first | refine opB (fun b => ?_) | refine opA (fun a' c' hc1 hc2 => ?_))
      | (show GJ _ _ _ _ _ _ _; first | (apply GJ.and; exact rfl; intro hg) | (apply GJ.or; exact rfl; intro hg)))
    refine ⟨⟨by omega, by simp only [List.length_append, List.length_cons, List.length_nil]; omega⟩, ?_⟩
    simp only [get0, get1, get2, get3]
    repeat (first
      | (show _ ∧ _; exact ⟨rfl, rfl, rfl⟩)
      | refine wkP ?_
      | (show OpOk _ _ _ _ _ _ _; first | refine opB (fun b => ?_) | refine opA (fun a' c' hc1 hc2 => ?_))
      | (show GJ _ _ _ _ _ _ _; first | (apply GJ.and; exact rfl; intro hg) | (apply GJ.or; exact rfl; intro hg)))
    refine ⟨⟨by omega, by simp only [List.length_append, List.length_cons, List.length_nil]; omega⟩, ?_⟩
    simp only [get0, get1, get2, get3]
    repeat (first
      | (show _ ∧ _; exact ⟨rfl, rfl, rfl⟩)
      | refine wkP ?_
      | (show OpOk _ _ _ _ _ _ _; first | refine opB (fun b => ?_) | refine opA (fun a' c' hc1 hc2 => ?_))
      | (show GJ _ _ _ _ _ _ _; first | (apply GJ.and; exact rfl; intro hg) | (apply GJ.or; exact rfl; intro hg)))
    refine rdigit_ok h1 ?_
    repeat (first
      | (show _ ∧ _; exact ⟨rfl, rfl, rfl⟩)
      | refine wkP ?_
      | (show OpOk _ _ _ _ _ _ _; first | refine opB (fun b => ?_) | refine opA (fun a' c' hc1 hc2 => ?_))
      | (show GJ _ _ _ _ _ _ _; first | (apply GJ.and; exact rfl; intro hg) | (apply GJ.or; exact rfl; intro hg)))
    refine rdigit_ok h2 ?_
    repeat (first
      | (show _ ∧ _; exact ⟨rfl, rfl, rfl⟩)
      | refine wkP ?_
      | (show OpOk _ _ _ _ _ _ _; first | refine opB (fun b => ?_) | refine opA (fun a' c' hc1 hc2 => ?_))
      | (show GJ _ _ _ _ _ _ _; first | (apply GJ.and; exact rfl; intro hg) | (apply GJ.or; exact rfl; intro hg)))
    exact Wk.outV Sup.auto hk (congrArg (Value.int .u8) (by omega))
  | @sign x hx =>
    refine CallOk.intro (args := [_]) (rs := [_]) T_ok Tryd.func106 Tryd.call106 rfl rfl (by kernel_rfl) rfl rfl ?_
    repeat (first
      | (show _ ∧ _; exact ⟨rfl, rfl, rfl⟩)
      | refine wkP ?_
      | (show OpOk _ _ _ _ _ _ _; first | refine opB (fun b => ?_) | refine opA (fun a' c' hc1 hc2 => ?_))
      | (show GJ _ _ _ _ _ _ _; first | (apply GJ.and; exact rfl; intro hg) | (apply GJ.or; exact rfl; intro hg)))
    obtain ⟨e1, e2, e3, e4, e5⟩ := esc_bad hx
    refine ⟨⟨by omega, by simp only [List.length_append, List.length_cons, List.length_nil]; omega⟩, ?_⟩
    simp only [get0, get1, get2, get3]
    repeat (first
      | (show _ ∧ _; exact ⟨rfl, rfl, rfl⟩)
      | refine wkP ?_
      | (show OpOk _ _ _ _ _ _ _; first | refine opB (fun b => ?_) | refine opA (fun a' c' hc1 hc2 => ?_))
      | (show GJ _ _ _ _ _ _ _; first | (apply GJ.and; exact rfl; intro hg) | (apply GJ.or; exact rfl; intro hg)))
    refine ⟨⟨by omega, by simp only [List.length_append, List.length_cons, List.length_nil]; omega⟩, ?_⟩
    simp only [get0, get1, get2, get3]
    repeat (first
      | (show _ ∧ _; exact ⟨rfl, rfl, rfl⟩)
      | refine wkP ?_
      | (show OpOk _ _ _ _ _ _ _; first | refine opB (fun b => ?_) | refine opA (fun a' c' hc1 hc2 => ?_))
      | (show GJ _ _ _ _ _ _ _; first | (apply GJ.and; exact rfl; intro hg) | (apply GJ.or; exact rfl; intro hg)))
    refine ⟨⟨by omega, by simp only [List.length_append, List.length_cons, List.length_nil]; omega⟩, ?_⟩
    simp only [get0, get1, get2, get3]
    repeat (first
      | (show _ ∧ _; exact ⟨rfl, rfl, rfl⟩)
      | refine wkP ?_
      | (show OpOk _ _ _ _ _ _ _; first | refine opB (fun b => ?_) | refine opA (fun a' c' hc1 hc2 => ?_))
      | (show GJ _ _ _ _ _ _ _; first | (apply GJ.and; exact rfl; intro hg) | (apply GJ.or; exact rfl; intro hg)))
    exact Wk.outS Sup.auto (.refl _) hk
def SkipC (p : List UInt8) : Prop := ∀ (r : List UInt8) (ro : Ro) (own : Chs) (K : Value → Ro → Chs → Prop), p.length + r.length ≤ 1000 → K (.int .i64 (p.length : Int)) ro own → CallOk Tryd.prog 55 #[str (p ++ r)] ro own K
theorem skip_ok {p : List UInt8} (h : Sk p) : SkipC p := by
  induction h with
  | @one c h =>
    intro r ro own K hl hk
    rw [List.cons_append]
    refine CallOk.intro (args := [_]) (rs := [_]) T_ok Tryd.func55 Tryd.call55 rfl rfl (by kernel_rfl) rfl rfl ?_
    repeat (first
      | (show _ ∧ _; exact ⟨rfl, rfl, rfl⟩)
      | refine wkP ?_
      | (show OpOk _ _ _ _ _ _ _; first | refine opB (fun b => ?_) | refine opA (fun a' c' hc1 hc2 => ?_))
      | (show GJ _ _ _ _ _ _ _; first | (apply GJ.and; exact rfl; intro hg) | (apply GJ.or; exact rfl; intro hg)))
    have h1 : c.toNat ≠ 92 := u8_ne h.1
    have h2 : c.toNat ≠ 91 := u8_ne h.2.1
    have h3 : c.toNat ≠ 40 := u8_ne h.2.2
    refine ⟨⟨by omega, by simp only [List.length_append, List.length_cons, List.length_nil]; omega⟩, ?_⟩
    simp only [get0, get1, get2, get3]
    repeat (first
      | (show _ ∧ _; exact ⟨rfl, rfl, rfl⟩)
      | refine wkP ?_
      | (show OpOk _ _ _ _ _ _ _; first | refine opB (fun b => ?_) | refine opA (fun a' c' hc1 hc2 => ?_))
      | (show GJ _ _ _ _ _ _ _; first | (apply GJ.and; exact rfl; intro hg) | (apply GJ.or; exact rfl; intro hg)))
    exact Wk.outS Sup.auto (.refl _) hk
  | @esc x h =>
    intro r ro own K hl hk
    simp only [List.cons_append, List.append_assoc]
    refine CallOk.intro (args := [_]) (rs := [_]) T_ok Tryd.func55 Tryd.call55 rfl rfl (by kernel_rfl) rfl rfl ?_
    repeat (first
      | (show _ ∧ _; exact ⟨rfl, rfl, rfl⟩)
      | refine wkP ?_
      | (show OpOk _ _ _ _ _ _ _; first | refine opB (fun b => ?_) | refine opA (fun a' c' hc1 hc2 => ?_))
      | (show GJ _ _ _ _ _ _ _; first | (apply GJ.and; exact rfl; intro hg) | (apply GJ.or; exact rfl; intro hg)))
    have h1 : x.toNat ≠ 120 := u8_ne h
    refine ⟨⟨by omega, by simp only [List.length_append, List.length_cons, List.length_nil]; omega⟩, ?_⟩
    simp only [get0, get1, get2, get3]
    repeat (first
      | (show _ ∧ _; exact ⟨rfl, rfl, rfl⟩)
      | refine wkP ?_
      | (show OpOk _ _ _ _ _ _ _; first | refine opB (fun b => ?_) | refine opA (fun a' c' hc1 hc2 => ?_))
      | (show GJ _ _ _ _ _ _ _; first | (apply GJ.and; exact rfl; intro hg) | (apply GJ.or; exact rfl; intro hg)))
    refine ⟨⟨by omega, by simp only [List.length_append, List.length_cons, List.length_nil]; omega⟩, ?_⟩
    simp only [get0, get1, get2, get3]
    repeat (first
      | (show _ ∧ _; exact ⟨rfl, rfl, rfl⟩)
      | refine wkP ?_
      | (show OpOk _ _ _ _ _ _ _; first | refine opB (fun b => ?_) | refine opA (fun a' c' hc1 hc2 => ?_))
      | (show GJ _ _ _ _ _ _ _; first | (apply GJ.and; exact rfl; intro hg) | (apply GJ.or; exact rfl; intro hg)))
    exact Wk.outS Sup.auto (.refl _) hk
  | hex =>
    intro r ro own K hl hk
    simp only [List.cons_append, List.append_assoc]
    refine CallOk.intro (args := [_]) (rs := [_]) T_ok Tryd.func55 Tryd.call55 rfl rfl (by kernel_rfl) rfl rfl ?_
    repeat (first
      | (show _ ∧ _; exact ⟨rfl, rfl, rfl⟩)
      | refine wkP ?_
      | (show OpOk _ _ _ _ _ _ _; first | refine opB (fun b => ?_) | refine opA (fun a' c' hc1 hc2 => ?_))
      | (show GJ _ _ _ _ _ _ _; first | (apply GJ.and; exact rfl; intro hg) | (apply GJ.or; exact rfl; intro hg)))
    refine ⟨⟨by omega, by simp only [List.length_append, List.length_cons, List.length_nil]; omega⟩, ?_⟩
    simp only [get0, get1, get2, get3]
    repeat (first
      | (show _ ∧ _; exact ⟨rfl, rfl, rfl⟩)
      | refine wkP ?_
      | (show OpOk _ _ _ _ _ _ _; first | refine opB (fun b => ?_) | refine opA (fun a' c' hc1 hc2 => ?_))
      | (show GJ _ _ _ _ _ _ _; first | (apply GJ.and; exact rfl; intro hg) | (apply GJ.or; exact rfl; intro hg)))
    refine ⟨⟨by omega, by simp only [List.length_append, List.length_cons, List.length_nil]; omega⟩, ?_⟩
    simp only [get0, get1, get2, get3]
    repeat (first
      | (show _ ∧ _; exact ⟨rfl, rfl, rfl⟩)
      | refine wkP ?_
      | (show OpOk _ _ _ _ _ _ _; first | refine opB (fun b => ?_) | refine opA (fun a' c' hc1 hc2 => ?_))
      | (show GJ _ _ _ _ _ _ _; first | (apply GJ.and; exact rfl; intro hg) | (apply GJ.or; exact rfl; intro hg)))
    exact Wk.outS Sup.auto (.refl _) hk
  | @set ps h h2 ih =>
    intro r ro own K hl hk
    simp only [List.cons_append, List.append_assoc]
    refine CallOk.intro (args := [_]) (rs := [_]) T_ok Tryd.func55 Tryd.call55 rfl rfl (by kernel_rfl) rfl rfl ?_
    repeat (first
      | (show _ ∧ _; exact ⟨rfl, rfl, rfl⟩)
      | refine wkP ?_
      | (show OpOk _ _ _ _ _ _ _; first | refine opB (fun b => ?_) | refine opA (fun a' c' hc1 hc2 => ?_))
      | (show GJ _ _ _ _ _ _ _; first | (apply GJ.and; exact rfl; intro hg) | (apply GJ.or; exact rfl; intro hg)))
    refine ⟨⟨by omega, by simp only [List.length_append, List.length_cons, List.length_nil]; omega⟩, ?_⟩
    simp only [get0, get1, get2, get3]
    repeat (first
      | (show _ ∧ _; exact ⟨rfl, rfl, rfl⟩)
      | refine wkP ?_
      | (show OpOk _ _ _ _ _ _ _; first | refine opB (fun b => ?_) | refine opA (fun a' c' hc1 hc2 => ?_))
      | (show GJ _ _ _ _ _ _ _; first | (apply GJ.and; exact rfl; intro hg) | (apply GJ.or; exact rfl; intro hg)))
    rw [List.length_cons, List.length_append] at hl
    have e1 : ([93] : List UInt8).length = 1 := rfl
    obtain ⟨T, hT⟩ : ∃ T, T = 91 :: (ps.flatten ++ 93 :: ([] ++ r)) := ⟨_, rfl⟩
    have hTl : T.length = 2 + ps.flatten.length + r.length := by rw [hT]; simp; omega
    rw [← hT]
    refine LoopOk.at (ι := Nat × Int) Keep.auto (fun (j, z) => [(3, .int .i64 z)]) (fun (j, z) => own) (fun (j, z) => j ≤ ps.length ∧ z = 1 + ((ps.take j).flatten.length : Int)) (fun (j, z) => ps.length - j) (0, 1) ?_ Sub.auto Sup.auto ?_
    · exact ⟨Nat.zero_le _, rfl⟩
    rintro ⟨j, z⟩ ⟨j1, j2⟩
    dsimp only [List.cons_append, List.nil_append] at j1 j2 ⊢
    have hfl := flat_le ps j
    by_cases hj : j < ps.length
    · obtain ⟨p, hp, hd⟩ := drop_get hj
      have hpm := List.mem_of_getElem? hp
      obtain ⟨x, m, hpx, hx⟩ := h2 p hpm
      have hD : T.drop z.toNat = p ++ ((ps.drop (j + 1)).flatten ++ 93 :: ([] ++ r)) := by
        rw [hT, show z.toNat = (ps.take j).flatten.length + 1 by omega, List.drop_succ_cons, flat_at, hd]; simp
      obtain ⟨g1, g2⟩ := get_drop (by rw [hD, hpx]; rfl : T.drop z.toNat = x :: (m ++ ((ps.drop (j + 1)).flatten ++ 93 :: ([] ++ r))))
      have hx2 : x.toNat ≠ 93 := u8_ne hx
      have hfs := flat_len hp
      have hfl2 := flat_le ps (j + 1)
      have hsk := ih p hpm
      repeat (first
        | (show _ ∧ _; exact ⟨rfl, rfl, rfl⟩)
        | refine wkP ?_
        | (show OpOk _ _ _ _ _ _ _; first | refine opB (fun b => ?_) | refine opA (fun a' c' hc1 hc2 => ?_))
        | (show GJ _ _ _ _ _ _ _; first | (apply GJ.and; exact rfl; intro hg) | (apply GJ.or; exact rfl; intro hg)))
      rw [g2]
      repeat (first
        | (show _ ∧ _; exact ⟨rfl, rfl, rfl⟩)
        | refine wkP ?_
        | (show OpOk _ _ _ _ _ _ _; first | refine opB (fun b => ?_) | refine opA (fun a' c' hc1 hc2 => ?_))
        | (show GJ _ _ _ _ _ _ _; first | (apply GJ.and; exact rfl; intro hg) | (apply GJ.or; exact rfl; intro hg)))
      have hlen := congrArg List.length hD
      rw [List.length_drop, List.length_append] at hlen
      rw [hD]
      refine hsk _ _ _ _ (by omega) ?_
      repeat (first
        | (show _ ∧ _; exact ⟨rfl, rfl, rfl⟩)
        | refine wkP ?_
        | (show OpOk _ _ _ _ _ _ _; first | refine opB (fun b => ?_) | refine opA (fun a' c' hc1 hc2 => ?_))
        | (show GJ _ _ _ _ _ _ _; first | (apply GJ.and; exact rfl; intro hg) | (apply GJ.or; exact rfl; intro hg)))
      refine Wk.id ⟨(j + 1, z + (p.length : Int)), ⟨rfl, ?_⟩, ?_, Sub.auto, Sup.auto⟩
      all_goals try dsimp only
      · exact ⟨by omega, by omega⟩
      · omega
    obtain rfl : j = ps.length := by omega
    rw [flat_all] at j2
    have hD : T.drop z.toNat = 93 :: ([] ++ r) := by
      rw [hT, show z.toNat = ps.flatten.length + 1 by omega, List.drop_succ_cons, List.drop_left]
    obtain ⟨g1, g2⟩ := get_drop hD
    repeat (first
      | (show _ ∧ _; exact ⟨rfl, rfl, rfl⟩)
      | refine wkP ?_
      | (show OpOk _ _ _ _ _ _ _; first | refine opB (fun b => ?_) | refine opA (fun a' c' hc1 hc2 => ?_))
      | (show GJ _ _ _ _ _ _ _; first | (apply GJ.and; exact rfl; intro hg) | (apply GJ.or; exact rfl; intro hg)))
    rw [g2]
    repeat (first
      | (show _ ∧ _; exact ⟨rfl, rfl, rfl⟩)
      | refine wkP ?_
      | (show OpOk _ _ _ _ _ _ _; first | refine opB (fun b => ?_) | refine opA (fun a' c' hc1 hc2 => ?_))
      | (show GJ _ _ _ _ _ _ _; first | (apply GJ.and; exact rfl; intro hg) | (apply GJ.or; exact rfl; intro hg)))
    refine Wk.outV Sup.auto hk (congrArg (Value.int .i64) ?_)
    simp only [List.length_append, List.length_cons, List.length_nil]
    omega
  | @par ps h h2 ih =>
    intro r ro own K hl hk
    simp only [List.cons_append, List.append_assoc]
    refine CallOk.intro (args := [_]) (rs := [_]) T_ok Tryd.func55 Tryd.call55 rfl rfl (by kernel_rfl) rfl rfl ?_
    repeat (first
      | (show _ ∧ _; exact ⟨rfl, rfl, rfl⟩)
      | refine wkP ?_
      | (show OpOk _ _ _ _ _ _ _; first | refine opB (fun b => ?_) | refine opA (fun a' c' hc1 hc2 => ?_))
      | (show GJ _ _ _ _ _ _ _; first | (apply GJ.and; exact rfl; intro hg) | (apply GJ.or; exact rfl; intro hg)))
    refine ⟨⟨by omega, by simp only [List.length_append, List.length_cons, List.length_nil]; omega⟩, ?_⟩
    simp only [get0, get1, get2, get3]
    repeat (first
      | (show _ ∧ _; exact ⟨rfl, rfl, rfl⟩)
      | refine wkP ?_
      | (show OpOk _ _ _ _ _ _ _; first | refine opB (fun b => ?_) | refine opA (fun a' c' hc1 hc2 => ?_))
      | (show GJ _ _ _ _ _ _ _; first | (apply GJ.and; exact rfl; intro hg) | (apply GJ.or; exact rfl; intro hg)))
    rw [List.length_cons, List.length_append] at hl
    have e1 : ([41] : List UInt8).length = 1 := rfl
    obtain ⟨T, hT⟩ : ∃ T, T = 40 :: (ps.flatten ++ 41 :: ([] ++ r)) := ⟨_, rfl⟩
    have hTl : T.length = 2 + ps.flatten.length + r.length := by rw [hT]; simp; omega
    rw [← hT]
    refine LoopOk.at (ι := Nat × Int) Keep.auto (fun (j, z) => [(4, .int .i64 z)]) (fun (j, z) => own) (fun (j, z) => j ≤ ps.length ∧ z = 1 + ((ps.take j).flatten.length : Int)) (fun (j, z) => ps.length - j) (0, 1) ?_ Sub.auto Sup.auto ?_
    · exact ⟨Nat.zero_le _, rfl⟩
    rintro ⟨j, z⟩ ⟨j1, j2⟩
    dsimp only [List.cons_append, List.nil_append] at j1 j2 ⊢
    have hfl := flat_le ps j
    by_cases hj : j < ps.length
    · obtain ⟨p, hp, hd⟩ := drop_get hj
      have hpm := List.mem_of_getElem? hp
      obtain ⟨x, m, hpx, hx⟩ := h2 p hpm
      have hD : T.drop z.toNat = p ++ ((ps.drop (j + 1)).flatten ++ 41 :: ([] ++ r)) := by
        rw [hT, show z.toNat = (ps.take j).flatten.length + 1 by omega, List.drop_succ_cons, flat_at, hd]; simp
      obtain ⟨g1, g2⟩ := get_drop (by rw [hD, hpx]; rfl : T.drop z.toNat = x :: (m ++ ((ps.drop (j + 1)).flatten ++ 41 :: ([] ++ r))))
      have hx2 : x.toNat ≠ 41 := u8_ne hx
      have hfs := flat_len hp
      have hfl2 := flat_le ps (j + 1)
      have hsk := ih p hpm
      repeat (first
        | (show _ ∧ _; exact ⟨rfl, rfl, rfl⟩)
        | refine wkP ?_
        | (show OpOk _ _ _ _ _ _ _; first | refine opB (fun b => ?_) | refine opA (fun a' c' hc1 hc2 => ?_))
        | (show GJ _ _ _ _ _ _ _; first | (apply GJ.and; exact rfl; intro hg) | (apply GJ.or; exact rfl; intro hg)))
      rw [g2]
      repeat (first
        | (show _ ∧ _; exact ⟨rfl, rfl, rfl⟩)
        | refine wkP ?_
        | (show OpOk _ _ _ _ _ _ _; first | refine opB (fun b => ?_) | refine opA (fun a' c' hc1 hc2 => ?_))
        | (show GJ _ _ _ _ _ _ _; first | (apply GJ.and; exact rfl; intro hg) | (apply GJ.or; exact rfl; intro hg)))
      have hlen := congrArg List.length hD
      rw [List.length_drop, List.length_append] at hlen
      rw [hD]
      refine hsk _ _ _ _ (by omega) ?_
      repeat (first
        | (show _ ∧ _; exact ⟨rfl, rfl, rfl⟩)
        | refine wkP ?_
        | (show OpOk _ _ _ _ _ _ _; first | refine opB (fun b => ?_) | refine opA (fun a' c' hc1 hc2 => ?_))
        | (show GJ _ _ _ _ _ _ _; first | (apply GJ.and; exact rfl; intro hg) | (apply GJ.or; exact rfl; intro hg)))
      refine Wk.id ⟨(j + 1, z + (p.length : Int)), ⟨rfl, ?_⟩, ?_, Sub.auto, Sup.auto⟩
      all_goals try dsimp only
      · exact ⟨by omega, by omega⟩
      · omega
    obtain rfl : j = ps.length := by omega
    rw [flat_all] at j2
    have hD : T.drop z.toNat = 41 :: ([] ++ r) := by
      rw [hT, show z.toNat = ps.flatten.length + 1 by omega, List.drop_succ_cons, List.drop_left]
    obtain ⟨g1, g2⟩ := get_drop hD
    repeat (first
      | (show _ ∧ _; exact ⟨rfl, rfl, rfl⟩)
      | refine wkP ?_
      | (show OpOk _ _ _ _ _ _ _; first | refine opB (fun b => ?_) | refine opA (fun a' c' hc1 hc2 => ?_))
      | (show GJ _ _ _ _ _ _ _; first | (apply GJ.and; exact rfl; intro hg) | (apply GJ.or; exact rfl; intro hg)))
    rw [g2]
    repeat (first
      | (show _ ∧ _; exact ⟨rfl, rfl, rfl⟩)
      | refine wkP ?_
      | (show OpOk _ _ _ _ _ _ _; first | refine opB (fun b => ?_) | refine opA (fun a' c' hc1 hc2 => ?_))
      | (show GJ _ _ _ _ _ _ _; first | (apply GJ.and; exact rfl; intro hg) | (apply GJ.or; exact rfl; intro hg)))
    refine Wk.outV Sup.auto hk (congrArg (Value.int .i64) ?_)
    simp only [List.length_append, List.length_cons, List.length_nil]
    omega
end
end Go.Proofs.YtniofdklhlbphaaDoor
