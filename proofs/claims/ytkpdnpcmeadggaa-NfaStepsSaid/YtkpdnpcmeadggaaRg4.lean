/- Contracts of wide: Mul, Add, Line, Int, Parse, Digits. -/
import Derived.Test.YtkpdnpcmeadggaaRxx
import Derived.Test.YtkpdnpcmeadggaaEn3
import Derived.Shelf.Bits.Mul64
import Derived.Ground.NamesProg
namespace Go.Proofs
open Go.Shelf
def Try.laysMul_ren : Go.Shelf.Ren := ⟨fun | 264 => 84 | n => n, fun | 53 => 22 | 46 => 81 | n => n, fun | n => n⟩
theorem Try.laysMul : Go.Proofs.Lays.n264 Try.prog Try.laysMul_ren := {
  mixed := by kernel_rfl
  f264 := Try.func84.trans (congrArg some (by kernel_rfl))
  t46 := Try.underlying81
  a46 := Try.isAgg81
  z46 := Try.sizeOf81
  v46 := Try.zeroValue81
  t53 := Try.underlying22
  a53 := Try.isAgg22
  z53 := Try.sizeOf22
  v53 := Try.zeroValue22 }
end Go.Proofs
namespace Go.Proofs.Ytkpdnpcmeadggaa
open Go Go.E
set_option linter.unusedVariables false
set_option linter.unusedSimpArgs false
set_option maxRecDepth 10000
section
variable {ro : Ro} {own r : Chs} {K : Value → Ro → Chs → Prop} {g : Chunk → Chs}
theorem mul64_ok {x y : Nat} (hx : x < 18446744073709551616) (hy : y < 18446744073709551616) (hk : K (.tuple #[.int .u64 ((x * y / 18446744073709551616 : Nat) : Int), .int .u64 ((x * y % 18446744073709551616 : Nat) : Int)]) ro own) :
    CallOk Try.prog 84 #[.int .u64 (x : Int), .int .u64 (y : Int)] ro own K := by
  refine CallOk.ofBelow Try.call84 (fun w => ?_) hk
  have h := Go.Proofs.Any.bits_Mul64 Try.laysMul x y hx hy w
  rw [show Try.laysMul_ren.f 264 = 84 by kernel_rfl] at h
  refine h.mono fun e w' ⟨he, hb⟩ => ⟨he, ?_⟩
  rw [hb]
  exact Go.RowKit.Below.refl _ _
theorem wmul_ok {x y : Nat} (hx : x < 18446744073709551616) (hy : y < 18446744073709551616) (h1 : x * y < 18446744073709551616 → K (.tuple #[.int .u64 ((x * y : Nat) : Int), .int .i64 0]) ro own) (h2 : 18446744073709551616 ≤ x * y → K (.tuple #[.int .u64 0, .int .i64 40]) ro own) :
    CallOk Try.prog 78 #[.int .u64 (x : Int), .int .u64 (y : Int)] ro own K := by
  refine CallOk.intro (args := [_, _]) (rs := [_, _]) T_ok Try.func78 Try.call78 rfl rfl (by kernel_rfl) rfl rfl ?_
  repeat (first
    | (show _ ∧ _; exact ⟨rfl, rfl, rfl⟩)
    | refine wkP ?_
    | (show OpOk _ _ _ _ _ _ _; first | refine opB (fun b => ?_) | refine opA (fun a' c' hc1 hc2 => ?_))
    | (show GJ _ _ _ _ _ _ _; first | (apply GJ.and; exact rfl; intro hg) | (apply GJ.or; exact rfl; intro hg)))
  refine mul64_ok hx hy ?_
  generalize x * y = z at h1 h2 ⊢
  repeat (first
    | (show _ ∧ _; exact ⟨rfl, rfl, rfl⟩)
    | refine wkP ?_
    | (show OpOk _ _ _ _ _ _ _; first | refine opB (fun b => ?_) | refine opA (fun a' c' hc1 hc2 => ?_))
    | (show GJ _ _ _ _ _ _ _; first | (apply GJ.and; exact rfl; intro hg) | (apply GJ.or; exact rfl; intro hg)))
  refine Br.cases (fun h => ?_) (fun h => ?_)
  · repeat (first
      | (show _ ∧ _; exact ⟨rfl, rfl, rfl⟩)
      | refine wkP ?_
      | (show OpOk _ _ _ _ _ _ _; first | refine opB (fun b => ?_) | refine opA (fun a' c' hc1 hc2 => ?_))
      | (show GJ _ _ _ _ _ _ _; first | (apply GJ.and; exact rfl; intro hg) | (apply GJ.or; exact rfl; intro hg)))
    exact Wk.outS Sup.auto (.refl _) (h2 (by omega))
  · have h3 : z < 18446744073709551616 := by omega
    rw [Nat.mod_eq_of_lt h3]
    repeat (first
      | (show _ ∧ _; exact ⟨rfl, rfl, rfl⟩)
      | refine wkP ?_
      | (show OpOk _ _ _ _ _ _ _; first | refine opB (fun b => ?_) | refine opA (fun a' c' hc1 hc2 => ?_))
      | (show GJ _ _ _ _ _ _ _; first | (apply GJ.and; exact rfl; intro hg) | (apply GJ.or; exact rfl; intro hg)))
    exact Wk.outS Sup.auto (.refl _) (h1 h3)
theorem wadd_ok {x y : Nat} (hx : x < 18446744073709551616) (hy : y < 18446744073709551616) (h1 : x + y < 18446744073709551616 → K (.tuple #[.int .u64 ((x + y : Nat) : Int), .int .i64 0]) ro own) (h2 : 18446744073709551616 ≤ x + y → K (.tuple #[.int .u64 0, .int .i64 40]) ro own) :
    CallOk Try.prog 79 #[.int .u64 (x : Int), .int .u64 (y : Int)] ro own K := by
  refine CallOk.intro (args := [_, _]) (rs := [_, _]) T_ok Try.func79 Try.call79 rfl rfl (by kernel_rfl) rfl rfl ?_
  repeat (first
    | (show _ ∧ _; exact ⟨rfl, rfl, rfl⟩)
    | refine wkP ?_
    | (show OpOk _ _ _ _ _ _ _; first | refine opB (fun b => ?_) | refine opA (fun a' c' hc1 hc2 => ?_))
    | (show GJ _ _ _ _ _ _ _; first | (apply GJ.and; exact rfl; intro hg) | (apply GJ.or; exact rfl; intro hg)))
  refine CallOk.add64 Try.func85 (by kernel_rfl) (by kernel_rfl) (by kernel_rfl) (by kernel_rfl) ?_
  generalize x + y = z at h1 h2 ⊢
  repeat (first
    | (show _ ∧ _; exact ⟨rfl, rfl, rfl⟩)
    | refine wkP ?_
    | (show OpOk _ _ _ _ _ _ _; first | refine opB (fun b => ?_) | refine opA (fun a' c' hc1 hc2 => ?_))
    | (show GJ _ _ _ _ _ _ _; first | (apply GJ.and; exact rfl; intro hg) | (apply GJ.or; exact rfl; intro hg)))
  refine Br.cases (fun h => ?_) (fun h => ?_)
  · repeat (first
      | (show _ ∧ _; exact ⟨rfl, rfl, rfl⟩)
      | refine wkP ?_
      | (show OpOk _ _ _ _ _ _ _; first | refine opB (fun b => ?_) | refine opA (fun a' c' hc1 hc2 => ?_))
      | (show GJ _ _ _ _ _ _ _; first | (apply GJ.and; exact rfl; intro hg) | (apply GJ.or; exact rfl; intro hg)))
    exact Wk.outS Sup.auto (.refl _) (h2 (by omega))
  · have h3 : z < 18446744073709551616 := by omega
    rw [Nat.mod_eq_of_lt h3]
    repeat (first
      | (show _ ∧ _; exact ⟨rfl, rfl, rfl⟩)
      | refine wkP ?_
      | (show OpOk _ _ _ _ _ _ _; first | refine opB (fun b => ?_) | refine opA (fun a' c' hc1 hc2 => ?_))
      | (show GJ _ _ _ _ _ _ _; first | (apply GJ.and; exact rfl; intro hg) | (apply GJ.or; exact rfl; intro hg)))
    exact Wk.outS Sup.auto (.refl _) (h1 h3)
theorem wline_ok {m x y : Nat} (hm : m < 18446744073709551616) (hx : x < 18446744073709551616) (hy : y < 18446744073709551616) (h1 : m * x + y < 18446744073709551616 → K (.tuple #[.int .u64 ((m * x + y : Nat) : Int), .int .i64 0]) ro own) (h2 : 18446744073709551616 ≤ m * x + y → K (.tuple #[.int .u64 0, .int .i64 40]) ro own) :
    CallOk Try.prog 76 #[.int .u64 (m : Int), .int .u64 (x : Int), .int .u64 (y : Int)] ro own K := by
  refine CallOk.intro (args := [_, _, _]) (rs := [_, _]) T_ok Try.func76 Try.call76 rfl rfl (by kernel_rfl) rfl rfl ?_
  repeat (first
    | (show _ ∧ _; exact ⟨rfl, rfl, rfl⟩)
    | refine wkP ?_
    | (show OpOk _ _ _ _ _ _ _; first | refine opB (fun b => ?_) | refine opA (fun a' c' hc1 hc2 => ?_))
    | (show GJ _ _ _ _ _ _ _; first | (apply GJ.and; exact rfl; intro hg) | (apply GJ.or; exact rfl; intro hg)))
  refine wmul_ok hm hx (fun h => ?_) (fun h => ?_)
  · repeat (first
      | (show _ ∧ _; exact ⟨rfl, rfl, rfl⟩)
      | refine wkP ?_
      | (show OpOk _ _ _ _ _ _ _; first | refine opB (fun b => ?_) | refine opA (fun a' c' hc1 hc2 => ?_))
      | (show GJ _ _ _ _ _ _ _; first | (apply GJ.and; exact rfl; intro hg) | (apply GJ.or; exact rfl; intro hg)))
    refine wadd_ok h hy (fun h3 => ?_) (fun h3 => ?_)
    · repeat (first
        | (show _ ∧ _; exact ⟨rfl, rfl, rfl⟩)
        | refine wkP ?_
        | (show OpOk _ _ _ _ _ _ _; first | refine opB (fun b => ?_) | refine opA (fun a' c' hc1 hc2 => ?_))
        | (show GJ _ _ _ _ _ _ _; first | (apply GJ.and; exact rfl; intro hg) | (apply GJ.or; exact rfl; intro hg)))
      exact Wk.outS Sup.auto (.refl _) (h1 h3)
    · repeat (first
        | (show _ ∧ _; exact ⟨rfl, rfl, rfl⟩)
        | refine wkP ?_
        | (show OpOk _ _ _ _ _ _ _; first | refine opB (fun b => ?_) | refine opA (fun a' c' hc1 hc2 => ?_))
        | (show GJ _ _ _ _ _ _ _; first | (apply GJ.and; exact rfl; intro hg) | (apply GJ.or; exact rfl; intro hg)))
      exact Wk.outS Sup.auto (.refl _) (h2 h3)
  · repeat (first
      | (show _ ∧ _; exact ⟨rfl, rfl, rfl⟩)
      | refine wkP ?_
      | (show OpOk _ _ _ _ _ _ _; first | refine opB (fun b => ?_) | refine opA (fun a' c' hc1 hc2 => ?_))
      | (show GJ _ _ _ _ _ _ _; first | (apply GJ.and; exact rfl; intro hg) | (apply GJ.or; exact rfl; intro hg)))
    exact Wk.outS Sup.auto (.refl _) (h2 (by omega))
theorem wint_ok {n m : Nat} (hn : n < 18446744073709551616) (hm : m < 1000000000) (h1 : n ≤ m → K (.tuple #[.int .i64 (n : Int), .int .i64 0]) ro own) (h2 : m < n → K (.tuple #[.int .i64 0, .int .i64 40]) ro own) :
    CallOk Try.prog 73 #[.int .u64 (n : Int), .int .i64 (m : Int)] ro own K := by
  by_cases h : n ≤ m
  · refine CallOk.intro (args := [_, _]) (rs := [_, _]) T_ok Try.func73 Try.call73 rfl rfl (by kernel_rfl) rfl rfl ?_
    repeat (first
      | (show _ ∧ _; exact ⟨rfl, rfl, rfl⟩)
      | refine wkP ?_
      | (show OpOk _ _ _ _ _ _ _; first | refine opB (fun b => ?_) | refine opA (fun a' c' hc1 hc2 => ?_))
      | (show GJ _ _ _ _ _ _ _; first | (apply GJ.and; exact rfl; intro hg) | (apply GJ.or; exact rfl; intro hg)))
    rw [wrap_i64 (by omega)]
    exact Wk.outS Sup.auto (.refl _) (h1 h)
  · refine CallOk.intro (args := [_, _]) (rs := [_, _]) T_ok Try.func73 Try.call73 rfl rfl (by kernel_rfl) rfl rfl ?_
    repeat (first
      | (show _ ∧ _; exact ⟨rfl, rfl, rfl⟩)
      | refine wkP ?_
      | (show OpOk _ _ _ _ _ _ _; first | refine opB (fun b => ?_) | refine opA (fun a' c' hc1 hc2 => ?_))
      | (show GJ _ _ _ _ _ _ _; first | (apply GJ.and; exact rfl; intro hg) | (apply GJ.or; exact rfl; intro hg)))
    exact Wk.outS Sup.auto (.refl _) (h2 (by omega))
theorem valOf_snoc (l : List UInt8) (c : UInt8) : valOf (l ++ [c]) = 10 * valOf l + (c.toNat - 48) := by simp [valOf]
def allDig (l : List UInt8) : Bool := l.all fun c => isDig c.toNat
def numD (l : List UInt8) : Nat × Nat := if badNum l = true ∨ allDig l = false then (0, 5) else if 18446744073709551616 ≤ valOf l then (0, 40) else (valOf l, 0)
set_option maxHeartbeats 4000000 in
theorem wparse_ok {l : List UInt8} (hl : l.length ≤ 100000) (hk : K (.tuple #[.int .u64 ((numD l).1 : Int), .int .i64 ((numD l).2 : Int)]) ro own) :
    CallOk Try.prog 72 #[str l] ro own K := by
  by_cases hb : badNum l = true
  · have hn : numD l = (0, 5) := by unfold numD; rw [if_pos (.inl hb)]
    rw [hn] at hk
    match l, hl, hb with
    | [], hl, hb =>
      refine CallOk.intro (args := [_]) (rs := [_, _]) T_ok Try.func72 Try.call72 rfl rfl (by kernel_rfl) rfl rfl ?_
      repeat (first
        | (show _ ∧ _; exact ⟨rfl, rfl, rfl⟩)
        | refine wkP ?_
        | (show OpOk _ _ _ _ _ _ _; first | refine opB (fun b => ?_) | refine opA (fun a' c' hc1 hc2 => ?_))
        | (show GJ _ _ _ _ _ _ _; first | (apply GJ.and; exact rfl; intro hg) | (apply GJ.or; exact rfl; intro hg)))
      exact Wk.outS Sup.auto (.refl _) hk
    | [c], hl, hb => simp [badNum] at hb
    | c :: d :: r, hl, hb =>
      have hc : c = 48 := by simpa [badNum] using hb
      subst hc
      have hlen : 1 < (48 :: d :: r : List UInt8).length := by simp
      have hne : ¬ (48 :: d :: r : List UInt8) = [] := by simp
      refine CallOk.intro (args := [_]) (rs := [_, _]) T_ok Try.func72 Try.call72 rfl rfl (by kernel_rfl) rfl rfl ?_
      repeat (first
        | (show _ ∧ _; exact ⟨rfl, rfl, rfl⟩)
        | refine wkP ?_
        | (show OpOk _ _ _ _ _ _ _; first | refine opB (fun b => ?_) | refine opA (fun a' c' hc1 hc2 => ?_))
        | (show GJ _ _ _ _ _ _ _; first | (apply GJ.and; exact rfl; intro hg) | (apply GJ.or; exact rfl; intro hg)))
      refine Br.t rfl ?_
      repeat (first
        | (show _ ∧ _; exact ⟨rfl, rfl, rfl⟩)
        | refine wkP ?_
        | (show OpOk _ _ _ _ _ _ _; first | refine opB (fun b => ?_) | refine opA (fun a' c' hc1 hc2 => ?_))
        | (show GJ _ _ _ _ _ _ _; first | (apply GJ.and; exact rfl; intro hg) | (apply GJ.or; exact rfl; intro hg)))
      exact Wk.outS Sup.auto (.refl _) hk
  · have hne : ¬ l = [] := by intro e; subst e; exact hb rfl
    have h0 : 1 < l.length → ¬ (l[0]!).toNat = 48 := by
      intro h e
      apply hb
      match l, h, e with
      | c :: d :: r, h, e =>
        have hc : c = 48 := UInt8.toNat_inj.1 e
        subst hc; rfl
    have hnum : numD l = if allDig l = false then (0, 5) else if 18446744073709551616 ≤ valOf l then (0, 40) else (valOf l, 0) := by
      unfold numD
      by_cases ha : allDig l = false
      · rw [if_pos (.inr ha), if_pos ha]
      · rw [if_neg (fun x => x.elim hb ha), if_neg ha]
    have rest : True := trivial
    have hz : (Int.toNat 0) = 0 := rfl
    refine CallOk.intro (args := [_]) (rs := [_, _]) T_ok Try.func72 Try.call72 rfl rfl (by kernel_rfl) rfl rfl ?_
    by_cases h1 : 1 < l.length
    · have h0 := h0 h1
      repeat (first
        | (show _ ∧ _; exact ⟨rfl, rfl, rfl⟩)
        | refine wkP ?_
        | (show OpOk _ _ _ _ _ _ _; first | refine opB (fun b => ?_) | refine opA (fun a' c' hc1 hc2 => ?_))
        | (show GJ _ _ _ _ _ _ _; first | (apply GJ.and; exact rfl; intro hg) | (apply GJ.or; exact rfl; intro hg)))
      refine Br.f (by rw [hz]; omega) ?_
      repeat (first
        | (show _ ∧ _; exact ⟨rfl, rfl, rfl⟩)
        | refine wkP ?_
        | (show OpOk _ _ _ _ _ _ _; first | refine opB (fun b => ?_) | refine opA (fun a' c' hc1 hc2 => ?_))
        | (show GJ _ _ _ _ _ _ _; first | (apply GJ.and; exact rfl; intro hg) | (apply GJ.or; exact rfl; intro hg)))
      refine LoopOk.at (ι := Nat × Nat × Bool) Keep.auto (fun (i, n, gr) => [(23, .int .i64 (i : Int)), (4, .int .u64 (n : Int)), (5, .bool gr)]) (fun (i, n, gr) => own) (fun (i, n, gr) => i ≤ l.length ∧ allDig (l.take i) = true ∧ n < 18446744073709551616 ∧ (gr = false → n = valOf (l.take i)) ∧ (gr = true → 18446744073709551616 ≤ valOf (l.take i))) (fun (i, n, gr) => l.length - i) (0, 0, false) ?_ Sub.auto Sup.auto ?_
      · exact ⟨Nat.zero_le _, rfl, by decide, fun _ => rfl, fun h => by cases h⟩
      rintro ⟨i, n, gr⟩ ⟨i1, i2, i3, i4, i5⟩
      dsimp only [List.cons_append, List.nil_append] at i1 i2 i3 i4 i5 ⊢
      repeat (first
        | (show _ ∧ _; exact ⟨rfl, rfl, rfl⟩)
        | refine wkP ?_
        | (show OpOk _ _ _ _ _ _ _; first | refine opB (fun b => ?_) | refine opA (fun a' c' hc1 hc2 => ?_))
        | (show GJ _ _ _ _ _ _ _; first | (apply GJ.and; exact rfl; intro hg) | (apply GJ.or; exact rfl; intro hg)))
      refine Br.cases (fun hg => ?_) (fun hg => ?_)
      · have hi : i < l.length := by omega
        obtain ⟨c, hc⟩ : ∃ c, l[i]? = some c := ⟨_, List.getElem?_eq_getElem hi⟩
        have htk : l.take (i + 1) = l.take i ++ [c] := by rw [List.take_add_one, hc]; rfl
        have hgc : l[(i : Int).toNat]! = c := by rw [Int.toNat_natCast, List.getElem!_eq_getElem?_getD, hc]; rfl
        have hcn := c.toNat_lt
        have hbad : isDig c.toNat = false → allDig l = false := fun h => by
          unfold allDig
          rw [List.all_eq_false]
          exact ⟨c, List.mem_of_getElem? hc, by rw [h]; decide⟩
        repeat (first
          | (show _ ∧ _; exact ⟨rfl, rfl, rfl⟩)
          | refine wkP ?_
          | (show OpOk _ _ _ _ _ _ _; first | refine opB (fun b => ?_) | refine opA (fun a' c' hc1 hc2 => ?_))
          | (show GJ _ _ _ _ _ _ _; first | (apply GJ.and; exact rfl; intro hg) | (apply GJ.or; exact rfl; intro hg)))
        try rw [hgc]
        by_cases hlo : c.toNat < 48
        · have hd := hbad (by simp [isDig]; omega)
          rw [hnum, if_pos hd] at hk
          repeat (first
            | (show _ ∧ _; exact ⟨rfl, rfl, rfl⟩)
            | refine wkP ?_
            | (show OpOk _ _ _ _ _ _ _; first | refine opB (fun b => ?_) | refine opA (fun a' c' hc1 hc2 => ?_))
            | (show GJ _ _ _ _ _ _ _; first | (apply GJ.and; exact rfl; intro hg) | (apply GJ.or; exact rfl; intro hg)))
          exact Wk.outS Sup.auto (.refl _) hk
        by_cases hhi : 57 < c.toNat
        · have hd := hbad (by simp [isDig]; omega)
          rw [hnum, if_pos hd] at hk
          repeat (first
            | (show _ ∧ _; exact ⟨rfl, rfl, rfl⟩)
            | refine wkP ?_
            | (show OpOk _ _ _ _ _ _ _; first | refine opB (fun b => ?_) | refine opA (fun a' c' hc1 hc2 => ?_))
            | (show GJ _ _ _ _ _ _ _; first | (apply GJ.and; exact rfl; intro hg) | (apply GJ.or; exact rfl; intro hg)))
          try rw [hgc]
          repeat (first
            | (show _ ∧ _; exact ⟨rfl, rfl, rfl⟩)
            | refine wkP ?_
            | (show OpOk _ _ _ _ _ _ _; first | refine opB (fun b => ?_) | refine opA (fun a' c' hc1 hc2 => ?_))
            | (show GJ _ _ _ _ _ _ _; first | (apply GJ.and; exact rfl; intro hg) | (apply GJ.or; exact rfl; intro hg)))
          exact Wk.outS Sup.auto (.refl _) hk
        have hdig : isDig c.toNat = true := by simp [isDig]; omega
        have hall : allDig (l.take (i + 1)) = true := by
          rw [htk]; unfold allDig at i2 ⊢; rw [List.all_append, i2]; simp [hdig]
        have hv : valOf (l.take (i + 1)) = 10 * valOf (l.take i) + (c.toNat - 48) := by rw [htk, valOf_snoc]
        repeat (first
          | (show _ ∧ _; exact ⟨rfl, rfl, rfl⟩)
          | refine wkP ?_
          | (show OpOk _ _ _ _ _ _ _; first | refine opB (fun b => ?_) | refine opA (fun a' c' hc1 hc2 => ?_))
          | (show GJ _ _ _ _ _ _ _; first | (apply GJ.and; exact rfl; intro hg) | (apply GJ.or; exact rfl; intro hg)))
        try rw [hgc]
        repeat (first
          | (show _ ∧ _; exact ⟨rfl, rfl, rfl⟩)
          | refine wkP ?_
          | (show OpOk _ _ _ _ _ _ _; first | refine opB (fun b => ?_) | refine opA (fun a' c' hc1 hc2 => ?_))
          | (show GJ _ _ _ _ _ _ _; first | (apply GJ.and; exact rfl; intro hg) | (apply GJ.or; exact rfl; intro hg)))
        try rw [hgc]
        repeat (first
          | (show _ ∧ _; exact ⟨rfl, rfl, rfl⟩)
          | refine wkP ?_
          | (show OpOk _ _ _ _ _ _ _; first | refine opB (fun b => ?_) | refine opA (fun a' c' hc1 hc2 => ?_))
          | (show GJ _ _ _ _ _ _ _; first | (apply GJ.and; exact rfl; intro hg) | (apply GJ.or; exact rfl; intro hg)))
        rw [show ((c.toNat : Int) - 48) % 256 = ((c.toNat - 48 : Nat) : Int) by omega]
        refine wline_ok (m := 10) (x := n) (y := c.toNat - 48) (by decide) i3 (by omega) (fun h => ?_) (fun h => ?_)
        · repeat (first
            | (show _ ∧ _; exact ⟨rfl, rfl, rfl⟩)
            | refine wkP ?_
            | (show OpOk _ _ _ _ _ _ _; first | refine opB (fun b => ?_) | refine opA (fun a' c' hc1 hc2 => ?_))
            | (show GJ _ _ _ _ _ _ _; first | (apply GJ.and; exact rfl; intro hg) | (apply GJ.or; exact rfl; intro hg)))
          refine Wk.id ⟨(i + 1, 10 * n + (c.toNat - 48), gr), ⟨rfl, ?_⟩, ?_, Sub.auto, Sup.auto⟩
          all_goals try dsimp only
          · exact ⟨by omega, hall, h, fun e => by rw [hv, i4 e], fun e => by have := i5 e; omega⟩
          · omega
        · repeat (first
            | (show _ ∧ _; exact ⟨rfl, rfl, rfl⟩)
            | refine wkP ?_
            | (show OpOk _ _ _ _ _ _ _; first | refine opB (fun b => ?_) | refine opA (fun a' c' hc1 hc2 => ?_))
            | (show GJ _ _ _ _ _ _ _; first | (apply GJ.and; exact rfl; intro hg) | (apply GJ.or; exact rfl; intro hg)))
          refine Wk.id ⟨(i + 1, 0, true), ⟨rfl, ?_⟩, ?_, Sub.auto, Sup.auto⟩
          all_goals try dsimp only
          · refine ⟨by omega, hall, by decide, fun e => (by cases e), fun _ => ?_⟩
            rw [hv]
            cases gr with
            | false => rw [← i4 rfl]; exact h
            | true => have := i5 rfl; omega
          · omega
      · obtain rfl : i = l.length := by omega
        rw [List.take_length] at i2 i4 i5
        rw [hnum, if_neg (by rw [i2]; decide)] at hk
        cases gr with
        | true =>
          rw [if_pos (i5 rfl)] at hk
          repeat (first
            | (show _ ∧ _; exact ⟨rfl, rfl, rfl⟩)
            | refine wkP ?_
            | (show OpOk _ _ _ _ _ _ _; first | refine opB (fun b => ?_) | refine opA (fun a' c' hc1 hc2 => ?_))
            | (show GJ _ _ _ _ _ _ _; first | (apply GJ.and; exact rfl; intro hg) | (apply GJ.or; exact rfl; intro hg)))
          exact Wk.outS Sup.auto (.refl _) hk
        | false =>
          rw [← i4 rfl, if_neg (by omega)] at hk
          repeat (first
            | (show _ ∧ _; exact ⟨rfl, rfl, rfl⟩)
            | refine wkP ?_
            | (show OpOk _ _ _ _ _ _ _; first | refine opB (fun b => ?_) | refine opA (fun a' c' hc1 hc2 => ?_))
            | (show GJ _ _ _ _ _ _ _; first | (apply GJ.and; exact rfl; intro hg) | (apply GJ.or; exact rfl; intro hg)))
          exact Wk.outS Sup.auto (.refl _) hk
    · repeat (first
        | (show _ ∧ _; exact ⟨rfl, rfl, rfl⟩)
        | refine wkP ?_
        | (show OpOk _ _ _ _ _ _ _; first | refine opB (fun b => ?_) | refine opA (fun a' c' hc1 hc2 => ?_))
        | (show GJ _ _ _ _ _ _ _; first | (apply GJ.and; exact rfl; intro hg) | (apply GJ.or; exact rfl; intro hg)))
      refine LoopOk.at (ι := Nat × Nat × Bool) Keep.auto (fun (i, n, gr) => [(23, .int .i64 (i : Int)), (4, .int .u64 (n : Int)), (5, .bool gr)]) (fun (i, n, gr) => own) (fun (i, n, gr) => i ≤ l.length ∧ allDig (l.take i) = true ∧ n < 18446744073709551616 ∧ (gr = false → n = valOf (l.take i)) ∧ (gr = true → 18446744073709551616 ≤ valOf (l.take i))) (fun (i, n, gr) => l.length - i) (0, 0, false) ?_ Sub.auto Sup.auto ?_
      · exact ⟨Nat.zero_le _, rfl, by decide, fun _ => rfl, fun h => by cases h⟩
      rintro ⟨i, n, gr⟩ ⟨i1, i2, i3, i4, i5⟩
      dsimp only [List.cons_append, List.nil_append] at i1 i2 i3 i4 i5 ⊢
      repeat (first
        | (show _ ∧ _; exact ⟨rfl, rfl, rfl⟩)
        | refine wkP ?_
        | (show OpOk _ _ _ _ _ _ _; first | refine opB (fun b => ?_) | refine opA (fun a' c' hc1 hc2 => ?_))
        | (show GJ _ _ _ _ _ _ _; first | (apply GJ.and; exact rfl; intro hg) | (apply GJ.or; exact rfl; intro hg)))
      refine Br.cases (fun hg => ?_) (fun hg => ?_)
      · have hi : i < l.length := by omega
        obtain ⟨c, hc⟩ : ∃ c, l[i]? = some c := ⟨_, List.getElem?_eq_getElem hi⟩
        have htk : l.take (i + 1) = l.take i ++ [c] := by rw [List.take_add_one, hc]; rfl
        have hgc : l[(i : Int).toNat]! = c := by rw [Int.toNat_natCast, List.getElem!_eq_getElem?_getD, hc]; rfl
        have hcn := c.toNat_lt
        have hbad : isDig c.toNat = false → allDig l = false := fun h => by
          unfold allDig
          rw [List.all_eq_false]
          exact ⟨c, List.mem_of_getElem? hc, by rw [h]; decide⟩
        repeat (first
          | (show _ ∧ _; exact ⟨rfl, rfl, rfl⟩)
          | refine wkP ?_
          | (show OpOk _ _ _ _ _ _ _; first | refine opB (fun b => ?_) | refine opA (fun a' c' hc1 hc2 => ?_))
          | (show GJ _ _ _ _ _ _ _; first | (apply GJ.and; exact rfl; intro hg) | (apply GJ.or; exact rfl; intro hg)))
        try rw [hgc]
        by_cases hlo : c.toNat < 48
        · have hd := hbad (by simp [isDig]; omega)
          rw [hnum, if_pos hd] at hk
          repeat (first
            | (show _ ∧ _; exact ⟨rfl, rfl, rfl⟩)
            | refine wkP ?_
            | (show OpOk _ _ _ _ _ _ _; first | refine opB (fun b => ?_) | refine opA (fun a' c' hc1 hc2 => ?_))
            | (show GJ _ _ _ _ _ _ _; first | (apply GJ.and; exact rfl; intro hg) | (apply GJ.or; exact rfl; intro hg)))
          exact Wk.outS Sup.auto (.refl _) hk
        by_cases hhi : 57 < c.toNat
        · have hd := hbad (by simp [isDig]; omega)
          rw [hnum, if_pos hd] at hk
          repeat (first
            | (show _ ∧ _; exact ⟨rfl, rfl, rfl⟩)
            | refine wkP ?_
            | (show OpOk _ _ _ _ _ _ _; first | refine opB (fun b => ?_) | refine opA (fun a' c' hc1 hc2 => ?_))
            | (show GJ _ _ _ _ _ _ _; first | (apply GJ.and; exact rfl; intro hg) | (apply GJ.or; exact rfl; intro hg)))
          try rw [hgc]
          repeat (first
            | (show _ ∧ _; exact ⟨rfl, rfl, rfl⟩)
            | refine wkP ?_
            | (show OpOk _ _ _ _ _ _ _; first | refine opB (fun b => ?_) | refine opA (fun a' c' hc1 hc2 => ?_))
            | (show GJ _ _ _ _ _ _ _; first | (apply GJ.and; exact rfl; intro hg) | (apply GJ.or; exact rfl; intro hg)))
          exact Wk.outS Sup.auto (.refl _) hk
        have hdig : isDig c.toNat = true := by simp [isDig]; omega
        have hall : allDig (l.take (i + 1)) = true := by
          rw [htk]; unfold allDig at i2 ⊢; rw [List.all_append, i2]; simp [hdig]
        have hv : valOf (l.take (i + 1)) = 10 * valOf (l.take i) + (c.toNat - 48) := by rw [htk, valOf_snoc]
        repeat (first
          | (show _ ∧ _; exact ⟨rfl, rfl, rfl⟩)
          | refine wkP ?_
          | (show OpOk _ _ _ _ _ _ _; first | refine opB (fun b => ?_) | refine opA (fun a' c' hc1 hc2 => ?_))
          | (show GJ _ _ _ _ _ _ _; first | (apply GJ.and; exact rfl; intro hg) | (apply GJ.or; exact rfl; intro hg)))
        try rw [hgc]
        repeat (first
          | (show _ ∧ _; exact ⟨rfl, rfl, rfl⟩)
          | refine wkP ?_
          | (show OpOk _ _ _ _ _ _ _; first | refine opB (fun b => ?_) | refine opA (fun a' c' hc1 hc2 => ?_))
          | (show GJ _ _ _ _ _ _ _; first | (apply GJ.and; exact rfl; intro hg) | (apply GJ.or; exact rfl; intro hg)))
        try rw [hgc]
        repeat (first
          | (show _ ∧ _; exact ⟨rfl, rfl, rfl⟩)
          | refine wkP ?_
          | (show OpOk _ _ _ _ _ _ _; first | refine opB (fun b => ?_) | refine opA (fun a' c' hc1 hc2 => ?_))
          | (show GJ _ _ _ _ _ _ _; first | (apply GJ.and; exact rfl; intro hg) | (apply GJ.or; exact rfl; intro hg)))
        rw [show ((c.toNat : Int) - 48) % 256 = ((c.toNat - 48 : Nat) : Int) by omega]
        refine wline_ok (m := 10) (x := n) (y := c.toNat - 48) (by decide) i3 (by omega) (fun h => ?_) (fun h => ?_)
        · repeat (first
            | (show _ ∧ _; exact ⟨rfl, rfl, rfl⟩)
            | refine wkP ?_
            | (show OpOk _ _ _ _ _ _ _; first | refine opB (fun b => ?_) | refine opA (fun a' c' hc1 hc2 => ?_))
            | (show GJ _ _ _ _ _ _ _; first | (apply GJ.and; exact rfl; intro hg) | (apply GJ.or; exact rfl; intro hg)))
          refine Wk.id ⟨(i + 1, 10 * n + (c.toNat - 48), gr), ⟨rfl, ?_⟩, ?_, Sub.auto, Sup.auto⟩
          all_goals try dsimp only
          · exact ⟨by omega, hall, h, fun e => by rw [hv, i4 e], fun e => by have := i5 e; omega⟩
          · omega
        · repeat (first
            | (show _ ∧ _; exact ⟨rfl, rfl, rfl⟩)
            | refine wkP ?_
            | (show OpOk _ _ _ _ _ _ _; first | refine opB (fun b => ?_) | refine opA (fun a' c' hc1 hc2 => ?_))
            | (show GJ _ _ _ _ _ _ _; first | (apply GJ.and; exact rfl; intro hg) | (apply GJ.or; exact rfl; intro hg)))
          refine Wk.id ⟨(i + 1, 0, true), ⟨rfl, ?_⟩, ?_, Sub.auto, Sup.auto⟩
          all_goals try dsimp only
          · refine ⟨by omega, hall, by decide, fun e => (by cases e), fun _ => ?_⟩
            rw [hv]
            cases gr with
            | false => rw [← i4 rfl]; exact h
            | true => have := i5 rfl; omega
          · omega
      · obtain rfl : i = l.length := by omega
        rw [List.take_length] at i2 i4 i5
        rw [hnum, if_neg (by rw [i2]; decide)] at hk
        cases gr with
        | true =>
          rw [if_pos (i5 rfl)] at hk
          repeat (first
            | (show _ ∧ _; exact ⟨rfl, rfl, rfl⟩)
            | refine wkP ?_
            | (show OpOk _ _ _ _ _ _ _; first | refine opB (fun b => ?_) | refine opA (fun a' c' hc1 hc2 => ?_))
            | (show GJ _ _ _ _ _ _ _; first | (apply GJ.and; exact rfl; intro hg) | (apply GJ.or; exact rfl; intro hg)))
          exact Wk.outS Sup.auto (.refl _) hk
        | false =>
          rw [← i4 rfl, if_neg (by omega)] at hk
          repeat (first
            | (show _ ∧ _; exact ⟨rfl, rfl, rfl⟩)
            | refine wkP ?_
            | (show OpOk _ _ _ _ _ _ _; first | refine opB (fun b => ?_) | refine opA (fun a' c' hc1 hc2 => ?_))
            | (show GJ _ _ _ _ _ _ _; first | (apply GJ.and; exact rfl; intro hg) | (apply GJ.or; exact rfl; intro hg)))
          exact Wk.outS Sup.auto (.refl _) hk
end
end Go.Proofs.Ytkpdnpcmeadggaa
