/- Contracts of regex: the reader's small functions. -/
import Derived.Test.YtkpdnpcmeadggaaRxx
import Derived.Test.YtkpdnpcmeadggaaCF
import Derived.Test.YtkpdnpcmeadggaaEn3
namespace Go.Proofs.Ytkpdnpcmeadggaa
open Go Go.E
set_option linter.unusedVariables false
set_option linter.unusedSimpArgs false
set_option maxRecDepth 10000
def rsV (t : List UInt8) (s : RS) : List Value := [str t, .int .i64 (s.p : Int), .int .i64 (s.n : Int), .int .i64 (s.e : Int), .int .i64 (s.f : Int)]
def nodeV (k : Int) (z : SetD) (a : Option Addr) (m c : Nat) (x y : Int) : List Value := [.int .i64 k, wV z.a, wV z.b, wV z.c, wV z.d, .slice a m c, .int .i64 x, .int .i64 y]
section
variable {ro : Ro} {own r : Chs} {K : Value → Ro → Chs → Prop} {g : Chunk → Chs} {q : Nat} {t : List UInt8}
theorem rwrong_ok {s : RS} [hb : HasBlk own q 71 (rsV t s) g] {x y : Int} (e a : Nat) (hx : x = (e : Int)) (hy : y = (a : Int)) (hk : K (.tuple #[]) ro (g (.blk q 71 (rsV t (s.wrong e a))))) :
    CallOk Try.prog 29 #[ptr' q, .int .i64 x, .int .i64 y] ro own K := by
  subst hx; subst hy
  obtain ⟨r, p1, p2⟩ := hb.split
  refine CallOk.perm p1 ?_
  refine CallOk.intro (args := [_, _, _]) (rs := []) T_ok Try.func29 Try.call29 rfl rfl (by kernel_rfl) rfl rfl ?_
  repeat (first
    | (show _ ∧ _; exact ⟨rfl, rfl, rfl⟩)
    | refine wkP ?_
    | (show OpOk _ _ _ _ _ _ _; first | refine opB (fun b => ?_) | refine opA (fun a' c' hc1 hc2 => ?_))
    | (show GJ _ _ _ _ _ _ _; first | (apply GJ.and; exact rfl; intro hg) | (apply GJ.or; exact rfl; intro hg)))
  refine Br.cases (fun h => ?_) (fun h => ?_)
  · have h : s.e = 0 := by omega
    unfold RS.wrong at hk
    rw [if_pos h] at hk
    repeat (first
      | (show _ ∧ _; exact ⟨rfl, rfl, rfl⟩)
      | refine wkP ?_
      | (show OpOk _ _ _ _ _ _ _; first | refine opB (fun b => ?_) | refine opA (fun a' c' hc1 hc2 => ?_))
      | (show GJ _ _ _ _ _ _ _; first | (apply GJ.and; exact rfl; intro hg) | (apply GJ.or; exact rfl; intro hg)))
    refine OpOk.storePart rfl rfl rfl rfl rfl (by exact Nat.le_refl 5) Nf.auto ?_
    repeat (first
      | (show _ ∧ _; exact ⟨rfl, rfl, rfl⟩)
      | refine wkP ?_
      | (show OpOk _ _ _ _ _ _ _; first | refine opB (fun b => ?_) | refine opA (fun a' c' hc1 hc2 => ?_))
      | (show GJ _ _ _ _ _ _ _; first | (apply GJ.and; exact rfl; intro hg) | (apply GJ.or; exact rfl; intro hg)))
    exact Wk.outS Sup.auto (p2 _) hk
  · have h : s.e ≠ 0 := by omega
    unfold RS.wrong at hk
    rw [if_neg h] at hk
    repeat (first
      | (show _ ∧ _; exact ⟨rfl, rfl, rfl⟩)
      | refine wkP ?_
      | (show OpOk _ _ _ _ _ _ _; first | refine opB (fun b => ?_) | refine opA (fun a' c' hc1 hc2 => ?_))
      | (show GJ _ _ _ _ _ _ _; first | (apply GJ.and; exact rfl; intro hg) | (apply GJ.or; exact rfl; intro hg)))
    exact Wk.outS Sup.auto (p2 _) hk
theorem rok_ok {s : RS} [hb : HasBlk own q 71 (rsV t s) g] (hk : K (.bool (decide ((s.e : Int) = 0))) ro own) :
    CallOk Try.prog 28 #[ptr' q] ro own K := by
  obtain ⟨r, p1, p2⟩ := hb.split
  refine CallOk.perm p1 ?_
  refine CallOk.intro (args := [_]) (rs := [_]) T_ok Try.func28 Try.call28 rfl rfl (by kernel_rfl) rfl rfl ?_
  repeat (first
    | (show _ ∧ _; exact ⟨rfl, rfl, rfl⟩)
    | refine wkP ?_
    | (show OpOk _ _ _ _ _ _ _; first | refine opB (fun b => ?_) | refine opA (fun a' c' hc1 hc2 => ?_))
    | (show GJ _ _ _ _ _ _ _; first | (apply GJ.and; exact rfl; intro hg) | (apply GJ.or; exact rfl; intro hg)))
  exact Wk.outS Sup.auto p1.symm hk
theorem peek_ok {s : RS} [hb : HasBlk own q 71 (rsV t s) g] (hk : K (.int .u8 (peekD t s : Int)) ro own) :
    CallOk Try.prog 51 #[ptr' q] ro own K := by
  obtain ⟨r, p1, p2⟩ := hb.split
  refine CallOk.perm p1 ?_
  by_cases h1 : s.p < t.length
  · by_cases h2 : s.e = 0
    · rw [peekD, if_pos ⟨h1, h2⟩] at hk
      refine CallOk.intro (args := [_]) (rs := [_]) T_ok Try.func51 Try.call51 rfl rfl (by kernel_rfl) rfl rfl ?_
      repeat (first
        | (show _ ∧ _; exact ⟨rfl, rfl, rfl⟩)
        | refine wkT ?_
        | refine Bs.all ?_
        | (show QOk _ _ _ _ _ _ _; refine QOk.build rfl rfl Nf.auto ?_)
        | (show OpOk _ _ _ _ _ _ _; first | refine opB (fun b => ?_) | refine opA (fun a' c' hc1 hc2 => ?_))
        | (show GJ _ _ _ _ _ _ _; first | refine GJ.t (by decide) ?_ | refine GJ.t omAuto ?_))
      refine rok_ok (t := t) (s := s) ?_
      repeat (first
        | (show _ ∧ _; exact ⟨rfl, rfl, rfl⟩)
        | refine wkT ?_
        | refine Bs.all ?_
        | (show QOk _ _ _ _ _ _ _; refine QOk.build rfl rfl Nf.auto ?_)
        | (show OpOk _ _ _ _ _ _ _; first | refine opB (fun b => ?_) | refine opA (fun a' c' hc1 hc2 => ?_))
        | (show GJ _ _ _ _ _ _ _; first | refine GJ.t (by decide) ?_ | refine GJ.t omAuto ?_))
      exact Wk.outS Sup.auto p1.symm hk
    · rw [peekD, if_neg (fun x => h2 x.2)] at hk
      refine CallOk.intro (args := [_]) (rs := [_]) T_ok Try.func51 Try.call51 rfl rfl (by kernel_rfl) rfl rfl ?_
      repeat (first
        | (show _ ∧ _; exact ⟨rfl, rfl, rfl⟩)
        | refine wkT ?_
        | refine Bs.all ?_
        | (show QOk _ _ _ _ _ _ _; refine QOk.build rfl rfl Nf.auto ?_)
        | (show OpOk _ _ _ _ _ _ _; first | refine opB (fun b => ?_) | refine opA (fun a' c' hc1 hc2 => ?_))
        | (show GJ _ _ _ _ _ _ _; first | refine GJ.t (by decide) ?_ | refine GJ.t omAuto ?_))
      refine rok_ok (t := t) (s := s) ?_
      repeat (first
        | (show _ ∧ _; exact ⟨rfl, rfl, rfl⟩)
        | refine wkA ?_
        | (show OpOk _ _ _ _ _ _ _; first | refine opB (fun b => ?_) | refine opA (fun a' c' hc1 hc2 => ?_))
        | (show GJ _ _ _ _ _ _ _; first | (apply GJ.and; exact rfl; intro hg) | (apply GJ.or; exact rfl; intro hg)))
      exact Wk.outS Sup.auto p1.symm hk
  · rw [peekD, if_neg (fun x => h1 x.1)] at hk
    refine CallOk.intro (args := [_]) (rs := [_]) T_ok Try.func51 Try.call51 rfl rfl (by kernel_rfl) rfl rfl ?_
    repeat (first
      | (show _ ∧ _; exact ⟨rfl, rfl, rfl⟩)
      | refine wkP ?_
      | (show OpOk _ _ _ _ _ _ _; first | refine opB (fun b => ?_) | refine opA (fun a' c' hc1 hc2 => ?_))
      | (show GJ _ _ _ _ _ _ _; first | (apply GJ.and; exact rfl; intro hg) | (apply GJ.or; exact rfl; intro hg)))
    exact Wk.outS Sup.auto p1.symm hk
theorem peek_lt (t : List UInt8) (s : RS) : peekD t s < 256 := by
  unfold peekD; split
  · exact (t[s.p]!).toNat_lt
  · decide
theorem eat_ok {s : RS} [hb : HasBlk own q 71 (rsV t s) g] {x : Int} (c : Nat) (hx : x = (c : Int)) (h0 : c ≠ 0) (hp : s.p ≤ 10000000) (hk : K (.bool (decide (peekD t s = c))) ro (g (.blk q 71 (rsV t (eatS t c s))))) :
    CallOk Try.prog 38 #[ptr' q, .int .u8 x] ro own K := by
  subst hx
  obtain ⟨r, p1, p2⟩ := hb.split
  refine CallOk.perm p1 ?_
  refine CallOk.intro (args := [_, _]) (rs := [_]) T_ok Try.func38 Try.call38 rfl rfl (by kernel_rfl) rfl rfl ?_
  repeat (first
    | (show _ ∧ _; exact ⟨rfl, rfl, rfl⟩)
    | refine wkA ?_
    | (show OpOk _ _ _ _ _ _ _; first | refine opB (fun b => ?_) | refine opA (fun a' c' hc1 hc2 => ?_))
    | (show GJ _ _ _ _ _ _ _; first | (apply GJ.and; exact rfl; intro hg) | (apply GJ.or; exact rfl; intro hg)))
  refine peek_ok (t := t) (s := s) ?_
  by_cases h : peekD t s = c
  · rw [decide_eq_true h, eatS, if_pos h] at hk
    repeat (first
      | (show _ ∧ _; exact ⟨rfl, rfl, rfl⟩)
      | refine wkA ?_
      | (show OpOk _ _ _ _ _ _ _; first | refine opB (fun b => ?_) | refine opA (fun a' c' hc1 hc2 => ?_))
      | (show GJ _ _ _ _ _ _ _; first | (apply GJ.and; exact rfl; intro hg) | (apply GJ.or; exact rfl; intro hg)))
    exact Wk.outS Sup.auto (p2 _) hk
  · rw [decide_eq_false h, eatS, if_neg h] at hk
    repeat (first
      | (show _ ∧ _; exact ⟨rfl, rfl, rfl⟩)
      | refine wkA ?_
      | (show OpOk _ _ _ _ _ _ _; first | refine opB (fun b => ?_) | refine opA (fun a' c' hc1 hc2 => ?_))
      | (show GJ _ _ _ _ _ _ _; first | (apply GJ.and; exact rfl; intro hg) | (apply GJ.or; exact rfl; intro hg)))
    exact Wk.outS Sup.auto (p2 _) hk
theorem must_ok {s : RS} [hb : HasBlk own q 71 (rsV t s) g] {x : Int} (c : Nat) (hx : x = (c : Int)) (h0 : c ≠ 0) (hp : s.p ≤ 10000000) (hk : K (.tuple #[]) ro (g (.blk q 71 (rsV t (mustS t c s))))) :
    CallOk Try.prog 61 #[ptr' q, .int .u8 x] ro own K := by
  obtain ⟨r, p1, p2⟩ := hb.split
  refine CallOk.perm p1 ?_
  refine CallOk.intro (args := [_, _]) (rs := []) T_ok Try.func61 Try.call61 rfl rfl (by kernel_rfl) rfl rfl ?_
  repeat (first
    | (show _ ∧ _; exact ⟨rfl, rfl, rfl⟩)
    | refine wkA ?_
    | (show OpOk _ _ _ _ _ _ _; first | refine opB (fun b => ?_) | refine opA (fun a' c' hc1 hc2 => ?_))
    | (show GJ _ _ _ _ _ _ _; first | (apply GJ.and; exact rfl; intro hg) | (apply GJ.or; exact rfl; intro hg)))
  refine eat_ok (t := t) (s := s) c hx h0 hp ?_
  by_cases h : peekD t s = c
  · rw [mustS, if_pos h] at hk
    rw [decide_eq_true h, eatS, if_pos h]
    repeat (first
      | (show _ ∧ _; exact ⟨rfl, rfl, rfl⟩)
      | refine wkA ?_
      | (show OpOk _ _ _ _ _ _ _; first | refine opB (fun b => ?_) | refine opA (fun a' c' hc1 hc2 => ?_))
      | (show GJ _ _ _ _ _ _ _; first | (apply GJ.and; exact rfl; intro hg) | (apply GJ.or; exact rfl; intro hg)))
    exact Wk.outS Sup.auto (p2 _) hk
  · rw [mustS, if_neg h] at hk
    rw [decide_eq_false h, eatS, if_neg h]
    repeat (first
      | (show _ ∧ _; exact ⟨rfl, rfl, rfl⟩)
      | refine wkA ?_
      | (show OpOk _ _ _ _ _ _ _; first | refine opB (fun b => ?_) | refine opA (fun a' c' hc1 hc2 => ?_))
      | (show GJ _ _ _ _ _ _ _; first | (apply GJ.and; exact rfl; intro hg) | (apply GJ.or; exact rfl; intro hg)))
    refine rwrong_ok (t := t) (s := s) 5 s.p rfl rfl ?_
    repeat (first
      | (show _ ∧ _; exact ⟨rfl, rfl, rfl⟩)
      | refine wkA ?_
      | (show OpOk _ _ _ _ _ _ _; first | refine opB (fun b => ?_) | refine opA (fun a' c' hc1 hc2 => ?_))
      | (show GJ _ _ _ _ _ _ _; first | (apply GJ.and; exact rfl; intro hg) | (apply GJ.or; exact rfl; intro hg)))
    exact Wk.outS Sup.auto (p2 _) hk
theorem node_ok {s : RS} [hb : HasBlk own q 71 (rsV t s) g] {k x y : Int} {z : SetD} {a : Option Addr} {m c : Nat} (hn : s.n ≤ 10000000)
    (hk : K (.agg (nodeV k z a m c x y).toArray) ro (g (.blk q 71 (rsV t (nodeS s))))) :
    CallOk Try.prog 39 #[ptr' q, .agg (nodeV k z a m c x y).toArray] ro own K := by
  obtain ⟨r, p1, p2⟩ := hb.split
  refine CallOk.perm p1 ?_
  refine CallOk.intro (args := [_, _]) (rs := [_]) T_ok Try.func39 Try.call39 rfl rfl (by kernel_rfl) rfl rfl ?_
  repeat (first
    | (show _ ∧ _; exact ⟨rfl, rfl, rfl⟩)
    | refine wkP ?_
    | (show OpOk _ _ _ _ _ _ _; first | refine opB (fun b => ?_) | refine opA (fun a' c' hc1 hc2 => ?_))
    | (show GJ _ _ _ _ _ _ _; first | (apply GJ.and; exact rfl; intro hg) | (apply GJ.or; exact rfl; intro hg)))
  have e1 : (.blk q 71 [str t, .int .i64 (s.p : Int), .int .i64 ((s.n : Int) + 1), .int .i64 (s.e : Int), .int .i64 (s.f : Int)] : Chunk) = .blk q 71 (rsV t { s with n := s.n + 1 }) := rfl
  refine Br.cases (fun h => ?_) (fun h => ?_)
  · rw [nodeS, if_pos (by omega)] at hk
    repeat (first
      | (show _ ∧ _; exact ⟨rfl, rfl, rfl⟩)
      | refine wkA ?_
      | (show OpOk _ _ _ _ _ _ _; first | refine opB (fun b => ?_) | refine opA (fun a' c' hc1 hc2 => ?_))
      | (show GJ _ _ _ _ _ _ _; first | (apply GJ.and; exact rfl; intro hg) | (apply GJ.or; exact rfl; intro hg)))
    rw [e1]
    refine rwrong_ok (t := t) (s := { s with n := s.n + 1 }) 2 s.p rfl rfl ?_
    repeat (first
      | (show _ ∧ _; exact ⟨rfl, rfl, rfl⟩)
      | refine wkP ?_
      | (show OpOk _ _ _ _ _ _ _; first | refine opB (fun b => ?_) | refine opA (fun a' c' hc1 hc2 => ?_))
      | (show GJ _ _ _ _ _ _ _; first | (apply GJ.and; exact rfl; intro hg) | (apply GJ.or; exact rfl; intro hg)))
    exact Wk.outS Sup.auto (p2 _) hk
  · rw [nodeS, if_neg (by omega)] at hk
    repeat (first
      | (show _ ∧ _; exact ⟨rfl, rfl, rfl⟩)
      | refine wkP ?_
      | (show OpOk _ _ _ _ _ _ _; first | refine opB (fun b => ?_) | refine opA (fun a' c' hc1 hc2 => ?_))
      | (show GJ _ _ _ _ _ _ _; first | (apply GJ.and; exact rfl; intro hg) | (apply GJ.or; exact rfl; intro hg)))
    exact Wk.outS Sup.auto (p2 _) hk
theorem digit_ok {s : RS} [hb : HasBlk own q 71 (rsV t s) g] {x : Int} (a : Nat) (hx : x = (a : Int)) (hp : s.p ≤ 10000000) (hk : K (.int .u8 ((digitD t a s).1 : Int)) ro (g (.blk q 71 (rsV t (digitD t a s).2)))) :
    CallOk Try.prog 74 #[ptr' q, .int .i64 x] ro own K := by
  obtain ⟨r, p1, p2⟩ := hb.split
  refine CallOk.perm p1 ?_
  have hlt := peek_lt t s
  refine CallOk.intro (args := [_, _]) (rs := [_]) T_ok Try.func74 Try.call74 rfl rfl (by kernel_rfl) rfl rfl ?_
  repeat (first
    | (show _ ∧ _; exact ⟨rfl, rfl, rfl⟩)
    | refine wkA ?_
    | (show OpOk _ _ _ _ _ _ _; first | refine opB (fun b => ?_) | refine opA (fun a' c' hc1 hc2 => ?_))
    | (show GJ _ _ _ _ _ _ _; first | (apply GJ.and; exact rfl; intro hg) | (apply GJ.or; exact rfl; intro hg)))
  refine peek_ok (t := t) (s := s) ?_
  have e1 : (.blk q 71 [str t, .int .i64 ((s.p : Int) + 1), .int .i64 (s.n : Int), .int .i64 (s.e : Int), .int .i64 (s.f : Int)] : Chunk) = .blk q 71 (rsV t s.adv) := rfl
  unfold digitD at hk
  generalize peekD t s = c at hlt hk ⊢
  by_cases h1 : isDig c = true
  · rw [if_pos h1] at hk
    simp only [isDig, Bool.and_eq_true, decide_eq_true_iff] at h1
    repeat (first
      | (show _ ∧ _; exact ⟨rfl, rfl, rfl⟩)
      | refine wkA ?_
      | (show OpOk _ _ _ _ _ _ _; first | refine opB (fun b => ?_) | refine opA (fun a' c' hc1 hc2 => ?_))
      | (show GJ _ _ _ _ _ _ _; first | (apply GJ.and; exact rfl; intro hg) | (apply GJ.or; exact rfl; intro hg)))
    exact Wk.outE Sup.auto (p2 _) hk (congrArg (Value.int .u8) (by dsimp only; omega))
  · rw [if_neg h1] at hk
    simp only [isDig, Bool.and_eq_true, decide_eq_true_iff] at h1
    by_cases h2 : 97 ≤ c ∧ c ≤ 102
    · rw [if_pos h2] at hk
      repeat (first
        | (show _ ∧ _; exact ⟨rfl, rfl, rfl⟩)
        | refine wkA ?_
        | (show OpOk _ _ _ _ _ _ _; first | refine opB (fun b => ?_) | refine opA (fun a' c' hc1 hc2 => ?_))
        | (show GJ _ _ _ _ _ _ _; first | (apply GJ.and; exact rfl; intro hg) | (apply GJ.or; exact rfl; intro hg)))
      exact Wk.outE Sup.auto (p2 _) hk (congrArg (Value.int .u8) (by dsimp only; omega))
    · rw [if_neg h2] at hk
      repeat (first
        | (show _ ∧ _; exact ⟨rfl, rfl, rfl⟩)
        | refine wkA ?_
        | (show OpOk _ _ _ _ _ _ _; first | refine opB (fun b => ?_) | refine opA (fun a' c' hc1 hc2 => ?_))
        | (show GJ _ _ _ _ _ _ _; first | (apply GJ.and; exact rfl; intro hg) | (apply GJ.or; exact rfl; intro hg)))
      rw [e1]
      refine rwrong_ok (t := t) (s := s.adv) 5 a rfl hx ?_
      repeat (first
        | (show _ ∧ _; exact ⟨rfl, rfl, rfl⟩)
        | refine wkA ?_
        | (show OpOk _ _ _ _ _ _ _; first | refine opB (fun b => ?_) | refine opA (fun a' c' hc1 hc2 => ?_))
        | (show GJ _ _ _ _ _ _ _; first | (apply GJ.and; exact rfl; intro hg) | (apply GJ.or; exact rfl; intro hg)))
      exact Wk.outS Sup.auto (p2 _) hk
end
end Go.Proofs.Ytkpdnpcmeadggaa
