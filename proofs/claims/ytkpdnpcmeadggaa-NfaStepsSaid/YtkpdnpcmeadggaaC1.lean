/- Sets of bytes as data. Contracts of class: Has, And, Or, Not, Empty, Check. -/
import Derived.Test.YtkpdnpcmeadggaaT
import Derived.Test.YtkpdnpcmeadggaaEn2
namespace Go.Proofs.Ytkpdnpcmeadggaa
open Go Go.E
set_option linter.unusedVariables false
set_option maxRecDepth 10000
structure SetD where
  a : Nat
  b : Nat
  c : Nat
  d : Nat
deriving DecidableEq
abbrev wV (w : Nat) : Value := .int .u64 (w : Int)
def setV (s : SetD) : List Value := [wV s.a, wV s.b, wV s.c, wV s.d]
def SetD.w (s : SetD) (k : Nat) : Nat := if k = 0 then s.a else if k = 1 then s.b else if k = 2 then s.c else s.d
def SetD.put (s : SetD) (k x : Nat) : SetD := if k = 0 then { s with a := x } else if k = 1 then { s with b := x } else if k = 2 then { s with c := x } else { s with d := x }
def SetIn (s : SetD) : Prop := ∀ k, s.w k < 18446744073709551616
theorem lt4 {k : Nat} (h : k < 4) : k = 0 ∨ k = 1 ∨ k = 2 ∨ k = 3 := by omega
theorem setV_get {s : SetD} {k : Nat} (h : k < 4) : (setV s)[k]? = some (wV (s.w k)) := by
  rcases lt4 h with rfl | rfl | rfl | rfl <;> rfl
theorem setV_set {s : SetD} {k x : Nat} (h : k < 4) : (setV s).set k (.int .u64 (x : Int)) = setV (s.put k x) := by
  rcases lt4 h with rfl | rfl | rfl | rfl <;> rfl
theorem SetD.w_put {s : SetD} {k x j : Nat} (h : k < 4) (hj : j < 4) : (s.put k x).w j = if j = k then x else s.w j := by
  rcases lt4 h with rfl | rfl | rfl | rfl <;> rcases lt4 hj with rfl | rfl | rfl | rfl <;> rfl
theorem SetD.ext4 {s t : SetD} (h : ∀ k, k < 4 → s.w k = t.w k) : s = t := by
  have h0 := h 0 (by omega)
  have h1 := h 1 (by omega)
  have h2 := h 2 (by omega)
  have h3 := h 3 (by omega)
  cases s; cases t
  simp [SetD.w] at h0 h1 h2 h3
  simp [h0, h1, h2, h3]
def SetD.has (s : SetD) (c : Nat) : Bool := (s.w (c / 64)).testBit (c % 64)
def SetD.and (s t : SetD) : SetD := ⟨s.a &&& t.a, s.b &&& t.b, s.c &&& t.c, s.d &&& t.d⟩
def SetD.or (s t : SetD) : SetD := ⟨s.a ||| t.a, s.b ||| t.b, s.c ||| t.c, s.d ||| t.d⟩
def SetD.not (s : SetD) : SetD := ⟨18446744073709551615 - s.a, 18446744073709551615 - s.b, 18446744073709551615 - s.c, 18446744073709551615 - s.d⟩
theorem SetD.w_and {s t : SetD} {k : Nat} : (s.and t).w k = s.w k &&& t.w k := by unfold SetD.w SetD.and; split; rfl; split; rfl; split <;> rfl
theorem SetD.w_or {s t : SetD} {k : Nat} : (s.or t).w k = s.w k ||| t.w k := by unfold SetD.w SetD.or; split; rfl; split; rfl; split <;> rfl
theorem SetD.w_not {s : SetD} {k : Nat} : s.not.w k = 18446744073709551615 - s.w k := by unfold SetD.w SetD.not; split; rfl; split; rfl; split <;> rfl
section
variable {ro : Ro} {own r : Chs} {K : Value → Ro → Chs → Prop} {g : Chunk → Chs}
theorem Ld.setAt {o k b : Nat} {t : TypeId} {cs : List Value} {f : Chunk → Chs} [hb : HasBlk own b t cs f] (s : SetD) (hc : cs = setV s) (ho : o = k) (hk : k < 4) : Ld ro own b o (.int .u64 ((s.w k : Nat) : Int)) := by
  subst hc; subst ho; exact Ld.hasBlkAt (setV_get hk)
theorem storeSet {ty : TypeId} {env : Env} {t : TypeId} {x y : Operand} {b o k w : Nat} {K : Value → Ro → Chs → Prop} {t0 : TypeId} {cs : List Value} {f : Chunk → Chs} (s : SetD) (hx : ev env x = some (.pointer (some ⟨b, o, none⟩))) {v : Int} (hy : ev env y = some (.int .u64 v)) (hw : v = (w : Int)) (ht : cell1 T t = true)
    [hb : HasBlk own b t0 cs f] (hc : cs = setV s) (ho : o = k) (hk4 : k < 4) (hk : K undef ro (f (.blk b t0 (setV (s.put k w))))) : OpOk Try.prog (.store t x y) ty env ro own K := by
  subst hc; subst ho; subst hw
  refine OpOk.storeAt hx hy ht rfl (by show o < 4; exact hk4) ?_
  rw [setV_set hk4]; exact hk
theorem and63 (c : Nat) : nand2 (c : Int) 63 = ((c % 64 : Nat) : Int) := by
  unfold nand2
  rw [Int.toNat_natCast]
  exact congrArg Int.ofNat (Nat.and_two_pow_sub_one_eq_mod c 6)
theorem shrN (x i : Nat) : (x : Int) / 2 ^ ((i : Nat) : Int).toNat = ((x / 2 ^ i : Nat) : Int) := by
  rw [Int.toNat_natCast]; push_cast; rfl
theorem and1 (x : Nat) : (nand2 (x : Int) 1 = 1) ↔ x % 2 = 1 := by
  have h : nand2 (x : Int) 1 = ((x % 2 : Nat) : Int) := by
    unfold nand2
    rw [Int.toNat_natCast]
    exact congrArg Int.ofNat (Nat.and_two_pow_sub_one_eq_mod x 1)
  rw [h]; omega
theorem testBit_div (x i : Nat) : decide (x / 2 ^ i % 2 = 1) = x.testBit i := by
  rw [Nat.testBit_eq_decide_div_mod_eq]
theorem has_ok {s : SetD} {c : Nat} (hs : SetIn s) (hc : c < 256) (hk : K (.bool (s.has c)) ro own) : CallOk Try.prog 26 #[.agg (setV s).toArray, .int .u8 (c : Int)] ro own K := by
  have hw := hs (c / 64)
  have hd : s.w (c / 64) / 2 ^ (c % 64) < 18446744073709551616 := Nat.lt_of_le_of_lt (Nat.div_le_self _ _) hw
  have e : (c : Int) / 2 ^ Int.toNat 6 = ((c / 64 : Nat) : Int) := by show (c : Int) / 64 = _; omega
  refine CallOk.intro (args := [_, _]) (rs := [_]) T_ok Try.func26 Try.call26 rfl rfl (by kernel_rfl) rfl rfl ?_
  repeat (first
    | (show _ ∧ _; exact ⟨rfl, rfl, rfl⟩)
    | refine wkG ?_
    | (show OpOk _ _ _ _ _ _ _; first | refine opB (fun b => ?_) | refine opA (fun a' c' hc1 hc2 => ?_))
    | (show GJ _ _ _ _ _ _ _; first | (apply GJ.and; exact rfl; intro hg) | (apply GJ.or; exact rfl; intro hg) | refine GJ.t omAuto ?_ | refine GJ.f omAuto ?_ | refine GJ.ft omAuto ?_ | refine GJ.ff omAuto ?_))
  rw [e]
  repeat (first
    | (show _ ∧ _; exact ⟨rfl, rfl, rfl⟩)
    | refine wkG ?_
    | (show OpOk _ _ _ _ _ _ _; first | refine opB (fun b => ?_) | refine opA (fun a' c' hc1 hc2 => ?_))
    | (show GJ _ _ _ _ _ _ _; first | (apply GJ.and; exact rfl; intro hg) | (apply GJ.or; exact rfl; intro hg) | refine GJ.t omAuto ?_ | refine GJ.f omAuto ?_ | refine GJ.ft omAuto ?_ | refine GJ.ff omAuto ?_))
  refine OpOk.load rfl rfl (Ld.setAt s rfl (k := c / 64) (by omega) (by omega)) ?_
  repeat (first
    | (show _ ∧ _; exact ⟨rfl, rfl, rfl⟩)
    | refine wkG ?_
    | (show OpOk _ _ _ _ _ _ _; first | refine opB (fun b => ?_) | refine opA (fun a' c' hc1 hc2 => ?_))
    | (show GJ _ _ _ _ _ _ _; first | (apply GJ.and; exact rfl; intro hg) | (apply GJ.or; exact rfl; intro hg) | refine GJ.t omAuto ?_ | refine GJ.f omAuto ?_ | refine GJ.ft omAuto ?_ | refine GJ.ff omAuto ?_))
  rw [and63]
  refine ⟨by omega, ?_⟩
  rw [shrN]
  generalize hq : s.w (c / 64) / 2 ^ (c % 64) = q at hd ⊢
  repeat (first
    | (show _ ∧ _; exact ⟨rfl, rfl, rfl⟩)
    | refine wkG ?_
    | (show OpOk _ _ _ _ _ _ _; first | refine opB (fun b => ?_) | refine opA (fun a' c' hc1 hc2 => ?_))
    | (show GJ _ _ _ _ _ _ _; first | (apply GJ.and; exact rfl; intro hg) | (apply GJ.or; exact rfl; intro hg) | refine GJ.t omAuto ?_ | refine GJ.f omAuto ?_ | refine GJ.ft omAuto ?_ | refine GJ.ff omAuto ?_))
  refine Wk.outV Sup.auto hk (congrArg Value.bool ?_)
  rw [SetD.has, ← testBit_div, hq, Bool.eq_iff_iff, decide_eq_true_iff, decide_eq_true_iff]
  exact (and1 _).symm
theorem empty_ok {s : SetD} (hk : K (.bool (decide (s = ⟨0, 0, 0, 0⟩))) ro own) : CallOk Try.prog 40 #[.agg (setV s).toArray] ro own K := by
  refine CallOk.intro (args := [_]) (rs := [_]) T_ok Try.func40 Try.call40 rfl rfl (by kernel_rfl) rfl rfl ?_
  repeat (first
    | (show _ ∧ _; exact ⟨rfl, rfl, rfl⟩)
    | refine wkG ?_
    | (show OpOk _ _ _ _ _ _ _; first | refine opB (fun b => ?_) | refine opA (fun a' c' hc1 hc2 => ?_))
    | (show GJ _ _ _ _ _ _ _; first | (apply GJ.and; exact rfl; intro hg) | (apply GJ.or; exact rfl; intro hg) | refine GJ.t omAuto ?_ | refine GJ.f omAuto ?_ | refine GJ.ft omAuto ?_ | refine GJ.ff omAuto ?_))
  refine OpOk.buildK (ps := []) (setV ⟨0, 0, 0, 0⟩) rfl (by kernel_rfl) ?_
  repeat (first
    | (show _ ∧ _; exact ⟨rfl, rfl, rfl⟩)
    | refine wkG ?_
    | (show OpOk _ _ _ _ _ _ _; first | refine opB (fun b => ?_) | refine opA (fun a' c' hc1 hc2 => ?_))
    | (show GJ _ _ _ _ _ _ _; first | (apply GJ.and; exact rfl; intro hg) | (apply GJ.or; exact rfl; intro hg) | refine GJ.t omAuto ?_ | refine GJ.f omAuto ?_ | refine GJ.ft omAuto ?_ | refine GJ.ff omAuto ?_))
  refine OpOk.eqlArr4 (e := 22) rfl rfl (by kernel_rfl) (by kernel_rfl) (by kernel_rfl) (by kernel_rfl) ?_
  repeat (first
    | (show _ ∧ _; exact ⟨rfl, rfl, rfl⟩)
    | refine wkG ?_
    | (show OpOk _ _ _ _ _ _ _; first | refine opB (fun b => ?_) | refine opA (fun a' c' hc1 hc2 => ?_))
    | (show GJ _ _ _ _ _ _ _; first | (apply GJ.and; exact rfl; intro hg) | (apply GJ.or; exact rfl; intro hg) | refine GJ.t omAuto ?_ | refine GJ.f omAuto ?_ | refine GJ.ft omAuto ?_ | refine GJ.ff omAuto ?_))
  refine Wk.outV Sup.auto hk (congrArg Value.bool ?_)
  rw [Bool.eq_iff_iff]
  cases s
  simp
end
end Go.Proofs.Ytkpdnpcmeadggaa
