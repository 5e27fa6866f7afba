/- Texts of a walk, one behind the other. -/
import Derived.Shelf.Bits.Mul64
import Derived.Ground.NamesProg
import Derived.Test.YtinbmhbfcoiefaaGreatDoorMg3
import Derived.Test.YtinbmhbfcoiefaaGreatDoorMg4
import Derived.Test.YtinbmhbfcoiefaaGreatDoorMg6
section
/- Contracts of wide: Mul, Add, Line, Int, Parse, Digits. -/
namespace Go.Proofs
open Go.Shelf
def Tryz.laysMul_ren : Go.Shelf.Ren := ⟨fun | 264 => 151 | n => n, fun | 53 => 22 | 46 => 149 | n => n, fun | n => n⟩
theorem Tryz.laysMul : Go.Proofs.Lays.n264 Tryz.prog Tryz.laysMul_ren := {
  mixed := by kernel_rfl
  f264 := Tryz.func151.trans (congrArg some (by kernel_rfl))
  t46 := Tryz.underlying149
  a46 := Tryz.isAgg149
  z46 := Tryz.sizeOf149
  v46 := Tryz.zeroValue149
  t53 := Tryz.underlying22
  a53 := Tryz.isAgg22
  z53 := Tryz.sizeOf22
  v53 := Tryz.zeroValue22 }
end Go.Proofs
namespace Go.Proofs.YtinbmhbfcoiefaaGreatDoor
open Go Go.E
set_option linter.unusedVariables false
set_option linter.unusedSimpArgs false
set_option maxRecDepth 10000
section
variable {ro : Ro} {own r : Chs} {K : Value → Ro → Chs → Prop} {g : Chunk → Chs}
theorem mul64_ok {x y : Nat} (hx : x < 18446744073709551616) (hy : y < 18446744073709551616) (hk : K (.tuple #[.int .u64 ((x * y / 18446744073709551616 : Nat) : Int), .int .u64 ((x * y % 18446744073709551616 : Nat) : Int)]) ro own) :
    CallOk Tryz.prog 151 #[.int .u64 (x : Int), .int .u64 (y : Int)] ro own K := by
  refine CallOk.ofBelow Tryz.call151 (fun w => ?_) hk
  have h := Go.Proofs.Any.bits_Mul64 Tryz.laysMul x y hx hy w
  rw [show Tryz.laysMul_ren.f 264 = 151 by kernel_rfl] at h
  refine h.mono fun e w' ⟨he, hb⟩ => ⟨he, ?_⟩
  rw [hb]
  exact Go.RowKit.Below.refl _ _
theorem wmul_ok {x y : Nat} (hx : x < 18446744073709551616) (hy : y < 18446744073709551616) (h1 : x * y < 18446744073709551616 → K (.tuple #[.int .u64 ((x * y : Nat) : Int), .int .i64 0]) ro own) (h2 : 18446744073709551616 ≤ x * y → K (.tuple #[.int .u64 0, .int .i64 40]) ro own) :
    CallOk Tryz.prog 145 #[.int .u64 (x : Int), .int .u64 (y : Int)] ro own K := by
  refine CallOk.intro (args := [_, _]) (rs := [_, _]) T_ok Tryz.func145 Tryz.call145 rfl rfl (by kernel_rfl) rfl rfl ?_
  repeat (first | exact endA | refine wkP ?_ | refine opB (fun b => ?_) | refine opA (fun a' c' hc1 hc2 => ?_) | (apply GJ.and; exact rfl; intro hg) | (apply GJ.or; exact rfl; intro hg))
  refine mul64_ok hx hy ?_
  generalize x * y = z at h1 h2 ⊢
  repeat (first | exact endA | refine wkP ?_ | refine opB (fun b => ?_) | refine opA (fun a' c' hc1 hc2 => ?_) | (apply GJ.and; exact rfl; intro hg) | (apply GJ.or; exact rfl; intro hg))
  refine Br.cases (fun h => ?_) (fun h => ?_)
  · repeat (first | exact endA | refine wkP ?_ | refine opB (fun b => ?_) | refine opA (fun a' c' hc1 hc2 => ?_) | (apply GJ.and; exact rfl; intro hg) | (apply GJ.or; exact rfl; intro hg))
    exact Wk.outS Sup.auto (.refl _) (h2 (by omega))
  · have h3 : z < 18446744073709551616 := by omega
    rw [Nat.mod_eq_of_lt h3]
    repeat (first | exact endA | refine wkP ?_ | refine opB (fun b => ?_) | refine opA (fun a' c' hc1 hc2 => ?_) | (apply GJ.and; exact rfl; intro hg) | (apply GJ.or; exact rfl; intro hg))
    exact Wk.outS Sup.auto (.refl _) (h1 h3)
theorem wadd_ok {x y : Nat} (hx : x < 18446744073709551616) (hy : y < 18446744073709551616) (h1 : x + y < 18446744073709551616 → K (.tuple #[.int .u64 ((x + y : Nat) : Int), .int .i64 0]) ro own) (h2 : 18446744073709551616 ≤ x + y → K (.tuple #[.int .u64 0, .int .i64 40]) ro own) :
    CallOk Tryz.prog 146 #[.int .u64 (x : Int), .int .u64 (y : Int)] ro own K := by
  refine CallOk.intro (args := [_, _]) (rs := [_, _]) T_ok Tryz.func146 Tryz.call146 rfl rfl (by kernel_rfl) rfl rfl ?_
  repeat (first | exact endA | refine wkP ?_ | refine opB (fun b => ?_) | refine opA (fun a' c' hc1 hc2 => ?_) | (apply GJ.and; exact rfl; intro hg) | (apply GJ.or; exact rfl; intro hg))
  refine CallOk.add64 Tryz.func152 (by kernel_rfl) (by kernel_rfl) (by kernel_rfl) (by kernel_rfl) ?_
  generalize x + y = z at h1 h2 ⊢
  repeat (first | exact endA | refine wkP ?_ | refine opB (fun b => ?_) | refine opA (fun a' c' hc1 hc2 => ?_) | (apply GJ.and; exact rfl; intro hg) | (apply GJ.or; exact rfl; intro hg))
  refine Br.cases (fun h => ?_) (fun h => ?_)
  · repeat (first | exact endA | refine wkP ?_ | refine opB (fun b => ?_) | refine opA (fun a' c' hc1 hc2 => ?_) | (apply GJ.and; exact rfl; intro hg) | (apply GJ.or; exact rfl; intro hg))
    exact Wk.outS Sup.auto (.refl _) (h2 (by omega))
  · have h3 : z < 18446744073709551616 := by omega
    rw [Nat.mod_eq_of_lt h3]
    repeat (first | exact endA | refine wkP ?_ | refine opB (fun b => ?_) | refine opA (fun a' c' hc1 hc2 => ?_) | (apply GJ.and; exact rfl; intro hg) | (apply GJ.or; exact rfl; intro hg))
    exact Wk.outS Sup.auto (.refl _) (h1 h3)
theorem wline_ok {m x y : Nat} (hm : m < 18446744073709551616) (hx : x < 18446744073709551616) (hy : y < 18446744073709551616) (h1 : m * x + y < 18446744073709551616 → K (.tuple #[.int .u64 ((m * x + y : Nat) : Int), .int .i64 0]) ro own) (h2 : 18446744073709551616 ≤ m * x + y → K (.tuple #[.int .u64 0, .int .i64 40]) ro own) :
    CallOk Tryz.prog 142 #[.int .u64 (m : Int), .int .u64 (x : Int), .int .u64 (y : Int)] ro own K := by
  refine CallOk.intro (args := [_, _, _]) (rs := [_, _]) T_ok Tryz.func142 Tryz.call142 rfl rfl (by kernel_rfl) rfl rfl ?_
  repeat (first | exact endA | refine wkP ?_ | refine opB (fun b => ?_) | refine opA (fun a' c' hc1 hc2 => ?_) | (apply GJ.and; exact rfl; intro hg) | (apply GJ.or; exact rfl; intro hg))
  refine wmul_ok hm hx (fun h => ?_) (fun h => ?_)
  · repeat (first | exact endA | refine wkP ?_ | refine opB (fun b => ?_) | refine opA (fun a' c' hc1 hc2 => ?_) | (apply GJ.and; exact rfl; intro hg) | (apply GJ.or; exact rfl; intro hg))
    refine wadd_ok h hy (fun h3 => ?_) (fun h3 => ?_)
    · repeat (first | exact endA | refine wkP ?_ | refine opB (fun b => ?_) | refine opA (fun a' c' hc1 hc2 => ?_) | (apply GJ.and; exact rfl; intro hg) | (apply GJ.or; exact rfl; intro hg))
      exact Wk.outS Sup.auto (.refl _) (h1 h3)
    · repeat (first | exact endA | refine wkP ?_ | refine opB (fun b => ?_) | refine opA (fun a' c' hc1 hc2 => ?_) | (apply GJ.and; exact rfl; intro hg) | (apply GJ.or; exact rfl; intro hg))
      exact Wk.outS Sup.auto (.refl _) (h2 h3)
  · repeat (first | exact endA | refine wkP ?_ | refine opB (fun b => ?_) | refine opA (fun a' c' hc1 hc2 => ?_) | (apply GJ.and; exact rfl; intro hg) | (apply GJ.or; exact rfl; intro hg))
    exact Wk.outS Sup.auto (.refl _) (h2 (by omega))
theorem wint_ok {n m : Nat} (hn : n < 18446744073709551616) (hm : m < 1000000000) (h1 : n ≤ m → K (.tuple #[.int .i64 (n : Int), .int .i64 0]) ro own) (h2 : m < n → K (.tuple #[.int .i64 0, .int .i64 40]) ro own) :
    CallOk Tryz.prog 133 #[.int .u64 (n : Int), .int .i64 (m : Int)] ro own K := by
  by_cases h : n ≤ m
  · refine CallOk.intro (args := [_, _]) (rs := [_, _]) T_ok Tryz.func133 Tryz.call133 rfl rfl (by kernel_rfl) rfl rfl ?_
    repeat (first | exact endA | refine wkP ?_ | refine opB (fun b => ?_) | refine opA (fun a' c' hc1 hc2 => ?_) | (apply GJ.and; exact rfl; intro hg) | (apply GJ.or; exact rfl; intro hg))
    rw [wrap_i64 (by omega)]
    exact Wk.outS Sup.auto (.refl _) (h1 h)
  · refine CallOk.intro (args := [_, _]) (rs := [_, _]) T_ok Tryz.func133 Tryz.call133 rfl rfl (by kernel_rfl) rfl rfl ?_
    repeat (first | exact endA | refine wkP ?_ | refine opB (fun b => ?_) | refine opA (fun a' c' hc1 hc2 => ?_) | (apply GJ.and; exact rfl; intro hg) | (apply GJ.or; exact rfl; intro hg))
    exact Wk.outS Sup.auto (.refl _) (h2 (by omega))
theorem valOf_snoc (l : List UInt8) (c : UInt8) : valOf (l ++ [c]) = 10 * valOf l + (c.toNat - 48) := by simp [valOf]
def allDig (l : List UInt8) : Bool := l.all fun c => isDig c.toNat
def numD (l : List UInt8) : Nat × Nat := if badNum l = true ∨ allDig l = false then (0, 5) else if 18446744073709551616 ≤ valOf l then (0, 40) else (valOf l, 0)
set_option maxHeartbeats 4000000 in
theorem wparse_ok {l : List UInt8} (hl : l.length ≤ 100000) (hk : K (.tuple #[.int .u64 ((numD l).1 : Int), .int .i64 ((numD l).2 : Int)]) ro own) :
    CallOk Tryz.prog 132 #[str l] ro own K := by
  by_cases hb : badNum l = true
  · have hn : numD l = (0, 5) := by unfold numD; rw [if_pos (.inl hb)]
    rw [hn] at hk
    match l, hl, hb with
    | [], hl, hb =>
      refine CallOk.intro (args := [_]) (rs := [_, _]) T_ok Tryz.func132 Tryz.call132 rfl rfl (by kernel_rfl) rfl rfl ?_
      repeat (first | exact endA | refine wkP ?_ | refine opB (fun b => ?_) | refine opA (fun a' c' hc1 hc2 => ?_) | (apply GJ.and; exact rfl; intro hg) | (apply GJ.or; exact rfl; intro hg))
      exact Wk.outS Sup.auto (.refl _) hk
    | [c], hl, hb => simp [badNum] at hb
    | c :: d :: r, hl, hb =>
      have hc : c = 48 := by simpa [badNum] using hb
      subst hc
      have hlen : 1 < (48 :: d :: r : List UInt8).length := by simp
      have hne : ¬ (48 :: d :: r : List UInt8) = [] := by simp
      refine CallOk.intro (args := [_]) (rs := [_, _]) T_ok Tryz.func132 Tryz.call132 rfl rfl (by kernel_rfl) rfl rfl ?_
      repeat (first | exact endA | refine wkP ?_ | refine opB (fun b => ?_) | refine opA (fun a' c' hc1 hc2 => ?_) | (apply GJ.and; exact rfl; intro hg) | (apply GJ.or; exact rfl; intro hg))
      refine Br.t rfl ?_
      repeat (first | exact endA | refine wkP ?_ | refine opB (fun b => ?_) | refine opA (fun a' c' hc1 hc2 => ?_) | (apply GJ.and; exact rfl; intro hg) | (apply GJ.or; exact rfl; intro hg))
      exact Wk.outS Sup.auto (.refl _) hk
  · have hne : ¬ l = [] := by intro e; subst e; exact hb rfl
    have h0 : 1 < l.length → ¬ (l[0]!).toNat = 48 := by
      intro h e
      apply hb
      match l, h, e with
      | c :: d :: r, h, e =>
        have hc : c = 48 := UInt8.toNat_inj.1 e
        subst hc; rfl
    have hnum : numD l = if allDig l = false then (0, 5) else if 18446744073709551616 ≤ valOf l then (0, 40) else (valOf l, 0) := by
      unfold numD
      by_cases ha : allDig l = false
      · rw [if_pos (.inr ha), if_pos ha]
      · rw [if_neg (fun x => x.elim hb ha), if_neg ha]
    have rest : True := trivial
    have hz : (Int.toNat 0) = 0 := rfl
    refine CallOk.intro (args := [_]) (rs := [_, _]) T_ok Tryz.func132 Tryz.call132 rfl rfl (by kernel_rfl) rfl rfl ?_
    by_cases h1 : 1 < l.length
    · have h0 := h0 h1
      repeat (first | exact endA | refine wkP ?_ | refine opB (fun b => ?_) | refine opA (fun a' c' hc1 hc2 => ?_) | (apply GJ.and; exact rfl; intro hg) | (apply GJ.or; exact rfl; intro hg))
      refine Br.f (by rw [hz]; omega) ?_
      repeat (first | exact endA | refine wkP ?_ | refine opB (fun b => ?_) | refine opA (fun a' c' hc1 hc2 => ?_) | (apply GJ.and; exact rfl; intro hg) | (apply GJ.or; exact rfl; intro hg))
      refine LoopOk.at (ι := Nat × Nat × Bool) Keep.auto (fun (i, n, gr) => [(23, .int .i64 (i : Int)), (4, .int .u64 (n : Int)), (5, .bool gr)]) (fun (i, n, gr) => own) (fun (i, n, gr) => i ≤ l.length ∧ allDig (l.take i) = true ∧ n < 18446744073709551616 ∧ (gr = false → n = valOf (l.take i)) ∧ (gr = true → 18446744073709551616 ≤ valOf (l.take i))) (fun (i, n, gr) => l.length - i) (0, 0, false) ?_ Sub.auto Sup.auto ?_
      · exact ⟨Nat.zero_le _, rfl, by decide, fun _ => rfl, fun h => by cases h⟩
      rintro ⟨i, n, gr⟩ ⟨i1, i2, i3, i4, i5⟩
      dsimp only [List.cons_append, List.nil_append] at i1 i2 i3 i4 i5 ⊢
      repeat (first | exact endA | refine wkP ?_ | refine opB (fun b => ?_) | refine opA (fun a' c' hc1 hc2 => ?_) | (apply GJ.and; exact rfl; intro hg) | (apply GJ.or; exact rfl; intro hg))
      refine Br.cases (fun hg => ?_) (fun hg => ?_)
      · have hi : i < l.length := by omega
        obtain ⟨c, hc⟩ : ∃ c, l[i]? = some c := ⟨_, List.getElem?_eq_getElem hi⟩
        have htk : l.take (i + 1) = l.take i ++ [c] := by rw [List.take_add_one, hc]; rfl
        have hgc : l[(i : Int).toNat]! = c := by rw [Int.toNat_natCast, List.getElem!_eq_getElem?_getD, hc]; rfl
        have hcn := c.toNat_lt
        have hbad : isDig c.toNat = false → allDig l = false := fun h => by
          unfold allDig
          rw [List.all_eq_false]
          exact ⟨c, List.mem_of_getElem? hc, by rw [h]; decide⟩
        repeat (first | exact endA | refine wkP ?_ | refine opB (fun b => ?_) | refine opA (fun a' c' hc1 hc2 => ?_) | (apply GJ.and; exact rfl; intro hg) | (apply GJ.or; exact rfl; intro hg))
        try rw [hgc]
        by_cases hlo : c.toNat < 48
        · have hd := hbad (by simp [isDig]; omega)
          rw [hnum, if_pos hd] at hk
          repeat (first | exact endA | refine wkP ?_ | refine opB (fun b => ?_) | refine opA (fun a' c' hc1 hc2 => ?_) | (apply GJ.and; exact rfl; intro hg) | (apply GJ.or; exact rfl; intro hg))
          exact Wk.outS Sup.auto (.refl _) hk
        by_cases hhi : 57 < c.toNat
        · have hd := hbad (by simp [isDig]; omega)
          rw [hnum, if_pos hd] at hk
          repeat (first | exact endA | refine wkP ?_ | refine opB (fun b => ?_) | refine opA (fun a' c' hc1 hc2 => ?_) | (apply GJ.and; exact rfl; intro hg) | (apply GJ.or; exact rfl; intro hg))
          try rw [hgc]
          repeat (first | exact endA | refine wkP ?_ | refine opB (fun b => ?_) | refine opA (fun a' c' hc1 hc2 => ?_) | (apply GJ.and; exact rfl; intro hg) | (apply GJ.or; exact rfl; intro hg))
          exact Wk.outS Sup.auto (.refl _) hk
        have hdig : isDig c.toNat = true := by simp [isDig]; omega
        have hall : allDig (l.take (i + 1)) = true := by
          rw [htk]; unfold allDig at i2 ⊢; rw [List.all_append, i2]; simp [hdig]
        have hv : valOf (l.take (i + 1)) = 10 * valOf (l.take i) + (c.toNat - 48) := by rw [htk, valOf_snoc]
        repeat (first | exact endA | refine wkP ?_ | refine opB (fun b => ?_) | refine opA (fun a' c' hc1 hc2 => ?_) | (apply GJ.and; exact rfl; intro hg) | (apply GJ.or; exact rfl; intro hg))
        try rw [hgc]
        repeat (first | exact endA | refine wkP ?_ | refine opB (fun b => ?_) | refine opA (fun a' c' hc1 hc2 => ?_) | (apply GJ.and; exact rfl; intro hg) | (apply GJ.or; exact rfl; intro hg))
        try rw [hgc]
        repeat (first | exact endA | refine wkP ?_ | refine opB (fun b => ?_) | refine opA (fun a' c' hc1 hc2 => ?_) | (apply GJ.and; exact rfl; intro hg) | (apply GJ.or; exact rfl; intro hg))
        rw [show ((c.toNat : Int) - 48) % 256 = ((c.toNat - 48 : Nat) : Int) by omega]
        refine wline_ok (m := 10) (x := n) (y := c.toNat - 48) (by decide) i3 (by omega) (fun h => ?_) (fun h => ?_)
        · repeat (first | exact endA | refine wkP ?_ | refine opB (fun b => ?_) | refine opA (fun a' c' hc1 hc2 => ?_) | (apply GJ.and; exact rfl; intro hg) | (apply GJ.or; exact rfl; intro hg))
          refine Wk.id ⟨(i + 1, 10 * n + (c.toNat - 48), gr), ⟨rfl, ?_⟩, ?_, Sub.auto, Sup.auto⟩
          all_goals try dsimp only
          · exact ⟨by omega, hall, h, fun e => by rw [hv, i4 e], fun e => by have := i5 e; omega⟩
          · omega
        · repeat (first | exact endA | refine wkP ?_ | refine opB (fun b => ?_) | refine opA (fun a' c' hc1 hc2 => ?_) | (apply GJ.and; exact rfl; intro hg) | (apply GJ.or; exact rfl; intro hg))
          refine Wk.id ⟨(i + 1, 0, true), ⟨rfl, ?_⟩, ?_, Sub.auto, Sup.auto⟩
          all_goals try dsimp only
          · refine ⟨by omega, hall, by decide, fun e => (by cases e), fun _ => ?_⟩
            rw [hv]
            cases gr with
            | false => rw [← i4 rfl]; exact h
            | true => have := i5 rfl; omega
          · omega
      · obtain rfl : i = l.length := by omega
        rw [List.take_length] at i2 i4 i5
        rw [hnum, if_neg (by rw [i2]; decide)] at hk
        cases gr with
        | true =>
          rw [if_pos (i5 rfl)] at hk
          repeat (first | exact endA | refine wkP ?_ | refine opB (fun b => ?_) | refine opA (fun a' c' hc1 hc2 => ?_) | (apply GJ.and; exact rfl; intro hg) | (apply GJ.or; exact rfl; intro hg))
          exact Wk.outS Sup.auto (.refl _) hk
        | false =>
          rw [← i4 rfl, if_neg (by omega)] at hk
          repeat (first | exact endA | refine wkP ?_ | refine opB (fun b => ?_) | refine opA (fun a' c' hc1 hc2 => ?_) | (apply GJ.and; exact rfl; intro hg) | (apply GJ.or; exact rfl; intro hg))
          exact Wk.outS Sup.auto (.refl _) hk
    · repeat (first | exact endA | refine wkP ?_ | refine opB (fun b => ?_) | refine opA (fun a' c' hc1 hc2 => ?_) | (apply GJ.and; exact rfl; intro hg) | (apply GJ.or; exact rfl; intro hg))
      refine LoopOk.at (ι := Nat × Nat × Bool) Keep.auto (fun (i, n, gr) => [(23, .int .i64 (i : Int)), (4, .int .u64 (n : Int)), (5, .bool gr)]) (fun (i, n, gr) => own) (fun (i, n, gr) => i ≤ l.length ∧ allDig (l.take i) = true ∧ n < 18446744073709551616 ∧ (gr = false → n = valOf (l.take i)) ∧ (gr = true → 18446744073709551616 ≤ valOf (l.take i))) (fun (i, n, gr) => l.length - i) (0, 0, false) ?_ Sub.auto Sup.auto ?_
      · exact ⟨Nat.zero_le _, rfl, by decide, fun _ => rfl, fun h => by cases h⟩
      rintro ⟨i, n, gr⟩ ⟨i1, i2, i3, i4, i5⟩
      dsimp only [List.cons_append, List.nil_append] at i1 i2 i3 i4 i5 ⊢
      repeat (first | exact endA | refine wkP ?_ | refine opB (fun b => ?_) | refine opA (fun a' c' hc1 hc2 => ?_) | (apply GJ.and; exact rfl; intro hg) | (apply GJ.or; exact rfl; intro hg))
      refine Br.cases (fun hg => ?_) (fun hg => ?_)
      · have hi : i < l.length := by omega
        obtain ⟨c, hc⟩ : ∃ c, l[i]? = some c := ⟨_, List.getElem?_eq_getElem hi⟩
        have htk : l.take (i + 1) = l.take i ++ [c] := by rw [List.take_add_one, hc]; rfl
        have hgc : l[(i : Int).toNat]! = c := by rw [Int.toNat_natCast, List.getElem!_eq_getElem?_getD, hc]; rfl
        have hcn := c.toNat_lt
        have hbad : isDig c.toNat = false → allDig l = false := fun h => by
          unfold allDig
          rw [List.all_eq_false]
          exact ⟨c, List.mem_of_getElem? hc, by rw [h]; decide⟩
        repeat (first | exact endA | refine wkP ?_ | refine opB (fun b => ?_) | refine opA (fun a' c' hc1 hc2 => ?_) | (apply GJ.and; exact rfl; intro hg) | (apply GJ.or; exact rfl; intro hg))
        try rw [hgc]
        by_cases hlo : c.toNat < 48
        · have hd := hbad (by simp [isDig]; omega)
          rw [hnum, if_pos hd] at hk
          repeat (first | exact endA | refine wkP ?_ | refine opB (fun b => ?_) | refine opA (fun a' c' hc1 hc2 => ?_) | (apply GJ.and; exact rfl; intro hg) | (apply GJ.or; exact rfl; intro hg))
          exact Wk.outS Sup.auto (.refl _) hk
        by_cases hhi : 57 < c.toNat
        · have hd := hbad (by simp [isDig]; omega)
          rw [hnum, if_pos hd] at hk
          repeat (first | exact endA | refine wkP ?_ | refine opB (fun b => ?_) | refine opA (fun a' c' hc1 hc2 => ?_) | (apply GJ.and; exact rfl; intro hg) | (apply GJ.or; exact rfl; intro hg))
          try rw [hgc]
          repeat (first | exact endA | refine wkP ?_ | refine opB (fun b => ?_) | refine opA (fun a' c' hc1 hc2 => ?_) | (apply GJ.and; exact rfl; intro hg) | (apply GJ.or; exact rfl; intro hg))
          exact Wk.outS Sup.auto (.refl _) hk
        have hdig : isDig c.toNat = true := by simp [isDig]; omega
        have hall : allDig (l.take (i + 1)) = true := by
          rw [htk]; unfold allDig at i2 ⊢; rw [List.all_append, i2]; simp [hdig]
        have hv : valOf (l.take (i + 1)) = 10 * valOf (l.take i) + (c.toNat - 48) := by rw [htk, valOf_snoc]
        repeat (first | exact endA | refine wkP ?_ | refine opB (fun b => ?_) | refine opA (fun a' c' hc1 hc2 => ?_) | (apply GJ.and; exact rfl; intro hg) | (apply GJ.or; exact rfl; intro hg))
        try rw [hgc]
        repeat (first | exact endA | refine wkP ?_ | refine opB (fun b => ?_) | refine opA (fun a' c' hc1 hc2 => ?_) | (apply GJ.and; exact rfl; intro hg) | (apply GJ.or; exact rfl; intro hg))
        try rw [hgc]
        repeat (first | exact endA | refine wkP ?_ | refine opB (fun b => ?_) | refine opA (fun a' c' hc1 hc2 => ?_) | (apply GJ.and; exact rfl; intro hg) | (apply GJ.or; exact rfl; intro hg))
        rw [show ((c.toNat : Int) - 48) % 256 = ((c.toNat - 48 : Nat) : Int) by omega]
        refine wline_ok (m := 10) (x := n) (y := c.toNat - 48) (by decide) i3 (by omega) (fun h => ?_) (fun h => ?_)
        · repeat (first | exact endA | refine wkP ?_ | refine opB (fun b => ?_) | refine opA (fun a' c' hc1 hc2 => ?_) | (apply GJ.and; exact rfl; intro hg) | (apply GJ.or; exact rfl; intro hg))
          refine Wk.id ⟨(i + 1, 10 * n + (c.toNat - 48), gr), ⟨rfl, ?_⟩, ?_, Sub.auto, Sup.auto⟩
          all_goals try dsimp only
          · exact ⟨by omega, hall, h, fun e => by rw [hv, i4 e], fun e => by have := i5 e; omega⟩
          · omega
        · repeat (first | exact endA | refine wkP ?_ | refine opB (fun b => ?_) | refine opA (fun a' c' hc1 hc2 => ?_) | (apply GJ.and; exact rfl; intro hg) | (apply GJ.or; exact rfl; intro hg))
          refine Wk.id ⟨(i + 1, 0, true), ⟨rfl, ?_⟩, ?_, Sub.auto, Sup.auto⟩
          all_goals try dsimp only
          · refine ⟨by omega, hall, by decide, fun e => (by cases e), fun _ => ?_⟩
            rw [hv]
            cases gr with
            | false => rw [← i4 rfl]; exact h
            | true => have := i5 rfl; omega
          · omega
      · obtain rfl : i = l.length := by omega
        rw [List.take_length] at i2 i4 i5
        rw [hnum, if_neg (by rw [i2]; decide)] at hk
        cases gr with
        | true =>
          rw [if_pos (i5 rfl)] at hk
          repeat (first | exact endA | refine wkP ?_ | refine opB (fun b => ?_) | refine opA (fun a' c' hc1 hc2 => ?_) | (apply GJ.and; exact rfl; intro hg) | (apply GJ.or; exact rfl; intro hg))
          exact Wk.outS Sup.auto (.refl _) hk
        | false =>
          rw [← i4 rfl, if_neg (by omega)] at hk
          repeat (first | exact endA | refine wkP ?_ | refine opB (fun b => ?_) | refine opA (fun a' c' hc1 hc2 => ?_) | (apply GJ.and; exact rfl; intro hg) | (apply GJ.or; exact rfl; intro hg))
          exact Wk.outS Sup.auto (.refl _) hk
end
end Go.Proofs.YtinbmhbfcoiefaaGreatDoor
end
section
/- Contracts of regex: count, counts. -/
namespace Go.Proofs.YtinbmhbfcoiefaaGreatDoor
open Go Go.E
set_option linter.unusedVariables false
set_option linter.unusedSimpArgs false
set_option maxRecDepth 10000
theorem dropW {α : Type} {p : α → Bool} : ∀ {l q : List α} {x : α}, l.dropWhile p = x :: q → p x = false
  | [], _, _, h => by cases h
  | y :: l, q, x, h => by
    rw [List.dropWhile_cons] at h
    split at h
    · exact dropW h
    · rename_i hy; cases h; simpa using hy
theorem peek_digs {t : List UInt8} {s : RS} {j : Nat} (h0 : s.e = 0) (hj : j ≤ (digsOf (t.drop s.p)).length) : isDig (peekD t { s with p := s.p + j }) = decide (j < (digsOf (t.drop s.p)).length) := by
  have h3 : t.drop s.p = digsOf (t.drop s.p) ++ (t.drop s.p).dropWhile (fun c => isDig c.toNat) := List.takeWhile_append_dropWhile.symm
  have hall := digs_all (t.drop s.p)
  have h4 : ∀ x q, (t.drop s.p).dropWhile (fun c => isDig c.toNat) = x :: q → isDig x.toNat = false := fun x q h => dropW (p := fun c : UInt8 => isDig c.toNat) h
  generalize digsOf (t.drop s.p) = ds at h3 hj hall ⊢
  generalize (t.drop s.p).dropWhile (fun c => isDig c.toNat) = rs at h3 h4
  have h5 : t.drop (s.p + j) = ds.drop j ++ rs := by rw [← List.drop_drop, h3, List.drop_append_of_le_length hj]
  rcases Nat.lt_or_ge j ds.length with hlt | hge
  · rw [decide_eq_true hlt]
    have h6 : t.drop (s.p + j) = ds[j] :: (ds.drop (j + 1) ++ rs) := by rw [h5, List.drop_eq_getElem_cons hlt]; rfl
    rw [peek_at (s := { s with p := s.p + j }) h0 h6]
    exact hall _ (List.getElem_mem hlt)
  · rw [decide_eq_false (by omega)]
    rw [List.drop_eq_nil_of_le hge, List.nil_append] at h5
    cases rs with
    | nil => rw [peek_end (s := { s with p := s.p + j }) h5]; rfl
    | cons x q => rw [peek_at (s := { s with p := s.p + j }) h0 h5]; exact h4 x q rfl
section
variable {ro : Ro} {own r : Chs} {K : Value → Ro → Chs → Prop} {g : Chunk → Chs} {q : Nat} {t : List UInt8}
set_option maxHeartbeats 4000000 in
theorem rcount_ok {s : RS} [hb : HasBlk own q 105 (rsV t s) g] (h0 : s.e = 0) (hp : s.p ≤ t.length) (hl : t.length ≤ 10000) (hk : K (.int .i64 ((countD t s).1 : Int)) ro (g (.blk q 105 (rsV t (countD t s).2)))) :
    CallOk Tryz.prog 109 #[ptr' q] ro own K := by
  obtain ⟨r, p1, p2⟩ := hb.split
  refine CallOk.perm p1 ?_
  have hdl := digs_le (t.drop s.p)
  rw [List.length_drop] at hdl
  have hall := digs_all (t.drop s.p)
  have hpk := fun j => peek_digs (t := t) (s := s) (j := j) h0
  have hcut : (t.drop s.p).take (digsOf (t.drop s.p)).length = digsOf (t.drop s.p) := by
    have h3 : t.drop s.p = digsOf (t.drop s.p) ++ (t.drop s.p).dropWhile (fun c => isDig c.toNat) := List.takeWhile_append_dropWhile.symm
    conv => lhs; rw [h3]
    rw [show (digsOf (digsOf (t.drop s.p) ++ (t.drop s.p).dropWhile (fun c => isDig c.toNat))) = digsOf (t.drop s.p) by rw [← h3]]
    simp
  unfold countD at hk
  dsimp only at hk
  generalize digsOf (t.drop s.p) = ds at hdl hall hpk hcut hk
  refine CallOk.intro (args := [_]) (rs := [_]) T_ok Tryz.func109 Tryz.call109 rfl rfl (by kernel_rfl) rfl rfl ?_
  repeat (first | exact endA | refine wkP ?_ | refine opB (fun b => ?_) | refine opA (fun a' c' hc1 hc2 => ?_) | (apply GJ.and; exact rfl; intro hg) | (apply GJ.or; exact rfl; intro hg))
  refine peek_ok (t := t) (s := s) ?_
  repeat (first | exact endA | refine wkP ?_ | refine opB (fun b => ?_) | refine opA (fun a' c' hc1 hc2 => ?_) | (apply GJ.and; exact rfl; intro hg) | (apply GJ.or; exact rfl; intro hg))
  refine LoopOk.at (ι := Nat) Keep.auto (fun j => [(4, .int .u8 (peekD t { s with p := s.p + j } : Int))]) (fun j => .blk q 105 (rsV t { s with p := s.p + j }) :: r) (fun j => j ≤ ds.length) (fun j => ds.length - j) 0 ?_ Sub.auto Sup.auto ?_
  · exact Nat.zero_le _
  rintro j j1
  dsimp only [List.cons_append, List.nil_append] at j1 ⊢
  have hd := hpk j j1
  have hlt := peek_lt t { s with p := s.p + j }
  by_cases hj : j < ds.length
  · rw [decide_eq_true hj] at hd
    simp only [isDig, Bool.and_eq_true, decide_eq_true_iff] at hd
    generalize peekD t { s with p := s.p + j } = c at hd hlt ⊢
    repeat (first | exact endA | refine wkP ?_ | refine opB (fun b => ?_) | refine opA (fun a' c' hc1 hc2 => ?_) | (apply GJ.and; exact rfl; intro hg) | (apply GJ.or; exact rfl; intro hg))
    have e1 : (.blk q 105 [str t, .int .i64 (((s.p + j : Nat) : Int) + 1), .int .i64 (s.n : Int), .int .i64 (s.e : Int), .int .i64 (s.f : Int)] : Chunk) = .blk q 105 (rsV t { s with p := s.p + (j + 1) }) := rfl
    rw [e1]
    refine peek_ok (t := t) (s := { s with p := s.p + (j + 1) }) ?_
    repeat (first | exact endA | refine wkP ?_ | refine opB (fun b => ?_) | refine opA (fun a' c' hc1 hc2 => ?_) | (apply GJ.and; exact rfl; intro hg) | (apply GJ.or; exact rfl; intro hg))
    refine Wk.id ⟨j + 1, ⟨rfl, ?_⟩, ?_, Sub.auto, Sup.auto⟩
    all_goals try dsimp only
    · omega
    · omega
  · obtain rfl : j = ds.length := by omega
    rw [decide_eq_false hj] at hd
    have hd : ¬ isDig (peekD t { s with p := s.p + ds.length }) = true := by rw [hd]; decide
    simp only [isDig, Bool.and_eq_true, decide_eq_true_iff] at hd
    generalize peekD t { s with p := s.p + ds.length } = c at hd hlt ⊢
    have hs1e : ({ s with p := s.p + ds.length } : RS).e = 0 := h0
    repeat (first | exact endA | refine wkP ?_ | refine opB (fun b => ?_) | refine opA (fun a' c' hc1 hc2 => ?_) | (apply GJ.and; exact rfl; intro hg) | (apply GJ.or; exact rfl; intro hg))
    rw [show ((s.p + ds.length : Nat) : Int).toNat - ((s.p : Nat) : Int).toNat = ds.length by omega, Int.toNat_natCast, hcut]
    refine wparse_ok (l := ds) (by omega) ?_
    have hall2 : allDig ds = true := by unfold allDig; rw [List.all_eq_true]; exact hall
    have hnum : numD ds = if badNum ds = true then (0, 5) else if 18446744073709551616 ≤ valOf ds then (0, 40) else (valOf ds, 0) := by
      unfold numD
      by_cases ha : badNum ds = true
      · rw [if_pos (.inl ha), if_pos ha]
      · rw [if_neg (fun x => x.elim ha (by rw [hall2]; decide)), if_neg ha]
    rw [hnum]
    by_cases hbn : badNum ds = true
    · rw [if_pos hbn] at hk ⊢
      repeat (first | exact endA | refine wkP ?_ | refine opB (fun b => ?_) | refine opA (fun a' c' hc1 hc2 => ?_) | (apply GJ.and; exact rfl; intro hg) | (apply GJ.or; exact rfl; intro hg))
      refine rwrong_ok (t := t) (s := { s with p := s.p + ds.length }) 5 s.p rfl rfl ?_
      repeat (first | exact endA | refine wkP ?_ | refine opB (fun b => ?_) | refine opA (fun a' c' hc1 hc2 => ?_) | (apply GJ.and; exact rfl; intro hg) | (apply GJ.or; exact rfl; intro hg))
      exact Wk.outS Sup.auto (p2 _) hk
    rw [if_neg hbn] at hk ⊢
    by_cases hbig : 18446744073709551616 ≤ valOf ds
    · rw [if_pos (show 256 < valOf ds by omega)] at hk
      rw [if_pos hbig]
      repeat (first | exact endA | refine wkP ?_ | refine opB (fun b => ?_) | refine opA (fun a' c' hc1 hc2 => ?_) | (apply GJ.and; exact rfl; intro hg) | (apply GJ.or; exact rfl; intro hg))
      refine wint_ok (n := 0) (m := 256) (by decide) (by decide) (fun _ => ?_) (fun h => absurd h (by decide))
      repeat (first | exact endA | refine wkP ?_ | refine opB (fun b => ?_) | refine opA (fun a' c' hc1 hc2 => ?_) | (apply GJ.and; exact rfl; intro hg) | (apply GJ.or; exact rfl; intro hg))
      refine rwrong_ok (t := t) (s := { s with p := s.p + ds.length }) 1 s.p rfl rfl ?_
      repeat (first | exact endA | refine wkP ?_ | refine opB (fun b => ?_) | refine opA (fun a' c' hc1 hc2 => ?_) | (apply GJ.and; exact rfl; intro hg) | (apply GJ.or; exact rfl; intro hg))
      exact Wk.outS Sup.auto (p2 _) hk
    rw [if_neg hbig]
    generalize valOf ds = v at hbig hk ⊢
    repeat (first | exact endA | refine wkP ?_ | refine opB (fun b => ?_) | refine opA (fun a' c' hc1 hc2 => ?_) | (apply GJ.and; exact rfl; intro hg) | (apply GJ.or; exact rfl; intro hg))
    refine wint_ok (n := v) (m := 256) (by omega) (by decide) (fun hle => ?_) (fun hgt => ?_)
    · rw [if_neg (by omega)] at hk
      repeat (first | exact endA | refine wkP ?_ | refine opB (fun b => ?_) | refine opA (fun a' c' hc1 hc2 => ?_) | (apply GJ.and; exact rfl; intro hg) | (apply GJ.or; exact rfl; intro hg))
      exact Wk.outS Sup.auto (p2 _) hk
    · rw [if_pos hgt] at hk
      repeat (first | exact endA | refine wkP ?_ | refine opB (fun b => ?_) | refine opA (fun a' c' hc1 hc2 => ?_) | (apply GJ.and; exact rfl; intro hg) | (apply GJ.or; exact rfl; intro hg))
      refine rwrong_ok (t := t) (s := { s with p := s.p + ds.length }) 1 s.p rfl rfl ?_
      repeat (first | exact endA | refine wkP ?_ | refine opB (fun b => ?_) | refine opA (fun a' c' hc1 hc2 => ?_) | (apply GJ.and; exact rfl; intro hg) | (apply GJ.or; exact rfl; intro hg))
      exact Wk.outS Sup.auto (p2 _) hk
theorem countD_p {s : RS} : (countD t s).2.p ≤ s.p + t.length := by
  have hdl := digs_le (t.drop s.p)
  rw [List.length_drop] at hdl
  have hw : ∀ (s1 : RS) (e f : Nat), (s1.wrong e f).p = s1.p := fun s1 e f => by unfold RS.wrong; split <;> rfl
  unfold countD
  dsimp only
  repeat' split
  all_goals (try rw [hw]); dsimp only; omega
theorem countD_le {s : RS} : (countD t s).1 ≤ 256 := by
  unfold countD
  dsimp only
  repeat' split
  all_goals dsimp only; omega
set_option maxHeartbeats 4000000 in
theorem rcounts_ok {s : RS} [hb : HasBlk own q 105 (rsV t s) g] (h0 : s.e = 0) (hp : s.p ≤ t.length) (hl : t.length ≤ 10000) (hk : K (.tuple #[.int .i64 ((countsD t s).1.1 : Int), .int .i64 (countsD t s).1.2]) ro (g (.blk q 105 (rsV t (countsD t s).2)))) :
    CallOk Tryz.prog 95 #[ptr' q] ro own K := by
  obtain ⟨r, p1, p2⟩ := hb.split
  refine CallOk.perm p1 ?_
  have hcp := countD_p (t := t) (s := s)
  have hcl := countD_le (t := t) (s := s)
  unfold countsD at hk
  dsimp only at hk
  refine CallOk.intro (args := [_]) (rs := [_, _]) T_ok Tryz.func95 Tryz.call95 rfl rfl (by kernel_rfl) rfl rfl ?_
  repeat (first | exact endA | refine wkP ?_ | refine opB (fun b => ?_) | refine opA (fun a' c' hc1 hc2 => ?_) | (apply GJ.and; exact rfl; intro hg) | (apply GJ.or; exact rfl; intro hg))
  refine rcount_ok (t := t) (s := s) h0 hp hl ?_
  obtain ⟨lo, hlo⟩ : ∃ z, z = (countD t s).1 := ⟨_, rfl⟩
  obtain ⟨s1, hs1⟩ : ∃ z, z = (countD t s).2 := ⟨_, rfl⟩
  rw [← hlo] at hcl
  rw [← hs1] at hcp
  rw [← hlo, ← hs1] at hk ⊢
  repeat (first | exact endA | refine wkP ?_ | refine opB (fun b => ?_) | refine opA (fun a' c' hc1 hc2 => ?_) | (apply GJ.and; exact rfl; intro hg) | (apply GJ.or; exact rfl; intro hg))
  refine eat_ok (t := t) (s := s1) 44 rfl (by decide) (by omega) ?_
  by_cases h44 : peekD t s1 = 44
  · rw [if_pos h44] at hk
    rw [decide_eq_true h44, eatS, if_pos h44]
    have hpp := peek_pos (t := t) (s := s1) (by rw [h44]; decide)
    repeat (first | exact endA | refine wkP ?_ | refine opB (fun b => ?_) | refine opA (fun a' c' hc1 hc2 => ?_) | (apply GJ.and; exact rfl; intro hg) | (apply GJ.or; exact rfl; intro hg))
    refine peek_ok (t := t) (s := s1.adv) ?_
    by_cases h125 : peekD t s1.adv = 125
    · rw [if_pos h125] at hk
      dsimp only at hk
      rw [if_neg (by omega)] at hk
      rw [h125]
      repeat (first | exact endA | refine wkP ?_ | refine opB (fun b => ?_) | refine opA (fun a' c' hc1 hc2 => ?_) | (apply GJ.and; exact rfl; intro hg) | (apply GJ.or; exact rfl; intro hg))
      refine must_ok (t := t) (s := s1.adv) 125 rfl (by decide) (by show s1.p + 1 ≤ _; omega) ?_
      repeat (first | exact endA | refine wkP ?_ | refine opB (fun b => ?_) | refine opA (fun a' c' hc1 hc2 => ?_) | (apply GJ.and; exact rfl; intro hg) | (apply GJ.or; exact rfl; intro hg))
      exact Wk.outS Sup.auto (p2 _) hk
    · rw [if_neg h125] at hk
      dsimp only at hk
      have hcp2 := countD_p (t := t) (s := s1.adv)
      have hcl2 := countD_le (t := t) (s := s1.adv)
      have hap : s1.adv.p = s1.p + 1 := rfl
      have h125' : ¬ (peekD t s1.adv : Int) = 125 := by omega
      generalize peekD t s1.adv = c at h125' ⊢
      repeat (first | exact endA | refine wkP ?_ | refine opB (fun b => ?_) | refine opA (fun a' c' hc1 hc2 => ?_) | (apply GJ.and; exact rfl; intro hg) | (apply GJ.or; exact rfl; intro hg))
      refine rcount_ok (t := t) (s := s1.adv) hpp.1 (by omega) hl ?_
      generalize (countD t s1.adv).1 = hi at hk hcl2 ⊢
      generalize (countD t s1.adv).2 = s2 at hk hcp2 ⊢
      repeat (first | exact endA | refine wkP ?_ | refine opB (fun b => ?_) | refine opA (fun a' c' hc1 hc2 => ?_) | (apply GJ.and; exact rfl; intro hg) | (apply GJ.or; exact rfl; intro hg))
      refine must_ok (t := t) (s := s2) 125 rfl (by decide) (by omega) ?_
      by_cases hlt : hi < lo
      · rw [if_pos (by omega)] at hk
        repeat (first | exact endA | refine wkP ?_ | refine opB (fun b => ?_) | refine opA (fun a' c' hc1 hc2 => ?_) | (apply GJ.and; exact rfl; intro hg) | (apply GJ.or; exact rfl; intro hg))
        refine rwrong_ok (t := t) (s := mustS t 125 s2) 1 s.p rfl rfl ?_
        repeat (first | exact endA | refine wkP ?_ | refine opB (fun b => ?_) | refine opA (fun a' c' hc1 hc2 => ?_) | (apply GJ.and; exact rfl; intro hg) | (apply GJ.or; exact rfl; intro hg))
        exact Wk.outS Sup.auto (p2 _) hk
      · rw [if_neg (by omega)] at hk
        repeat (first | exact endA | refine wkP ?_ | refine opB (fun b => ?_) | refine opA (fun a' c' hc1 hc2 => ?_) | (apply GJ.and; exact rfl; intro hg) | (apply GJ.or; exact rfl; intro hg))
        exact Wk.outS Sup.auto (p2 _) hk
  · rw [if_neg h44] at hk
    dsimp only at hk
    rw [if_neg (by omega)] at hk
    rw [decide_eq_false h44, eatS, if_neg h44]
    repeat (first | exact endA | refine wkP ?_ | refine opB (fun b => ?_) | refine opA (fun a' c' hc1 hc2 => ?_) | (apply GJ.and; exact rfl; intro hg) | (apply GJ.or; exact rfl; intro hg))
    refine must_ok (t := t) (s := s1) 125 rfl (by decide) (by omega) ?_
    repeat (first | exact endA | refine wkP ?_ | refine opB (fun b => ?_) | refine opA (fun a' c' hc1 hc2 => ?_) | (apply GJ.and; exact rfl; intro hg) | (apply GJ.or; exact rfl; intro hg))
    exact Wk.outS Sup.auto (p2 _) hk
end
end Go.Proofs.YtinbmhbfcoiefaaGreatDoor
end
section
/- Expressions in memory; contracts of regex: atom. -/
namespace Go.Proofs.YtinbmhbfcoiefaaGreatDoor
open Go Go.E
set_option linter.unusedVariables false
set_option linter.unusedSimpArgs false
set_option maxRecDepth 10000
mutual
def RgOk (ro : Ro) : RgD → List Value → Prop
  | .mk k z l x y, v => ∃ a c cs, v = nodeV k z a l.length c x y ∧ SetIn z ∧ Rs ro a l.length c 8 cs ∧ RgsOk ro l cs
def RgsOk (ro : Ro) : List RgD → List Value → Prop
  | [], cs => cs = []
  | n :: l, cs => ∃ v r, cs = v ++ r ∧ RgOk ro n v ∧ RgsOk ro l r
end

theorem RgOk.cells {ro : Ro} {n : RgD} {v : List Value} (h : RgOk ro n v) : ∃ a c, v = nodeV n.kind n.set a n.kids.length c n.min n.max := by
  obtain ⟨k, z, l, x, y⟩ := n
  rw [RgOk] at h
  obtain ⟨a, c, cs, h1, _⟩ := h
  exact ⟨a, c, h1⟩
theorem RgOk.len {ro : Ro} {n : RgD} {v : List Value} (h : RgOk ro n v) : v.length = 8 := by obtain ⟨a, c, rfl⟩ := h.cells; rfl
theorem RgsOk.len {ro : Ro} : ∀ {l : List RgD} {cs : List Value}, RgsOk ro l cs → cs.length = l.length * 8
  | [], cs, h => by rw [RgsOk] at h; subst h; rfl
  | n :: l, cs, h => by
    rw [RgsOk] at h
    obtain ⟨v, r, rfl, h1, h2⟩ := h
    rw [List.length_append, h1.len, RgsOk.len h2, List.length_cons]; omega
theorem RgsOk.snoc {ro : Ro} {n : RgD} {v : List Value} (hv : RgOk ro n v) : ∀ {l : List RgD} {cs : List Value}, RgsOk ro l cs → RgsOk ro (l ++ [n]) (cs ++ v)
  | [], cs, h => by
    rw [RgsOk] at h; subst h
    rw [List.nil_append, List.nil_append, RgsOk]
    exact ⟨v, [], by simp, hv, by rw [RgsOk]⟩
  | m :: l, cs, h => by
    rw [RgsOk] at h
    obtain ⟨u, r, rfl, h1, h2⟩ := h
    rw [List.cons_append, RgsOk]
    exact ⟨u, r ++ v, by rw [List.append_assoc], h1, RgsOk.snoc hv h2⟩
theorem RgsOk.get {ro : Ro} : ∀ {l : List RgD} {cs : List Value} {i : Nat} {n : RgD}, RgsOk ro l cs → l[i]? = some n → RgOk ro n ((cs.drop (i * 8)).take 8)
  | [], _, _, _, _, h => by simp at h
  | m :: l, cs, 0, n, h, hi => by
    rw [RgsOk] at h
    obtain ⟨u, r, rfl, h1, h2⟩ := h
    simp at hi; subst hi
    have := h1.len
    simpa [← this] using h1
  | m :: l, cs, i + 1, n, h, hi => by
    rw [RgsOk] at h
    obtain ⟨u, r, rfl, h1, h2⟩ := h
    have := RgsOk.get h2 (i := i) (by simpa using hi)
    rw [show (i + 1) * 8 = u.length + i * 8 by rw [h1.len]; omega, ← List.drop_drop]
    simpa using this
def LeOk (n : RgD) : Prop := ∀ {ro ro' : Ro} {v : List Value}, Le ro ro' → RgOk ro n v → RgOk ro' n v
theorem RgsOk.le' : ∀ {l : List RgD}, (∀ x ∈ l, LeOk x) → ∀ {ro ro' : Ro} {cs : List Value}, Le ro ro' → RgsOk ro l cs → RgsOk ro' l cs
  | [], _, _, _, _, _, h => by rw [RgsOk] at h ⊢; exact h
  | n :: l, hx, ro, ro', cs, hl, h => by
    rw [RgsOk] at h ⊢
    obtain ⟨v, r, rfl, h1, h2⟩ := h
    exact ⟨v, r, rfl, hx n (by simp) hl h1, RgsOk.le' (fun y hy => hx y (by simp [hy])) hl h2⟩
theorem leOk : ∀ n, LeOk n := RgD.ind fun k z l x y ih {ro ro' v} hl h => by
  rw [RgOk] at h ⊢
  obtain ⟨a, c, cs, h1, h2, h3, h4⟩ := h
  exact ⟨a, c, cs, h1, h2, h3.up, RgsOk.le' ih hl h4⟩
theorem RgOk.le {ro ro' : Ro} {n : RgD} {v : List Value} (h : RgOk ro n v) (hl : Le ro ro') : RgOk ro' n v := leOk n hl h
theorem RgsOk.le {ro ro' : Ro} {l : List RgD} {cs : List Value} (h : RgsOk ro l cs) (hl : Le ro ro') : RgsOk ro' l cs := RgsOk.le' (fun x _ => leOk x) hl h
theorem RgOk.leaf {ro : Ro} {k : Int} {z : SetD} {x y : Int} (hz : SetIn z) : RgOk ro (.mk k z [] x y) (nodeV k z none 0 0 x y) := by
  rw [RgOk]; exact ⟨none, 0, [], rfl, hz, Rs.nil ro 8, by rw [RgsOk]⟩
theorem setD_in {t : List UInt8} {a : Nat} {s : RS} : SetIn (setD t a s).1 := by
  unfold setD
  dsimp only
  unfold turnD
  split
  · exact SetIn.not _
  · exact setL_in zeroS_in
/-- What is asked of the reading of brackets. -/
def AltC (t : List UInt8) (d : Nat) : Prop := ∀ {ro : Ro} {own : Chs} {g : Chunk → Chs} {q : Nat} {s : RS} {K : Value → Ro → Chs → Prop}, HasBlk own q 105 (rsV t s) g → Inv t s → s.e = 0 → s.n ≤ 512 →
  (∀ ro' v, Le ro ro' → RgOk ro' (altD t d s).1 v → K (.agg v.toArray) ro' (g (.blk q 105 (rsV t (altD t d s).2)))) → CallOk Tryz.prog 40 #[ptr' q, .int .i64 (33 - (d : Int))] ro own K
section
variable {ro : Ro} {own r : Chs} {K : Value → Ro → Chs → Prop} {g : Chunk → Chs} {q : Nat} {t : List UInt8}
theorem ofD_ok {b : Nat} {x : Nat} (hx : x < 256) (hk : ∀ ro', Le ro ro' → K (.agg (setV (ofD x)).toArray) ro' r) : CallOk Tryz.prog 107 #[.slice (some ⟨b, 0, none⟩) 1 1] ro (.sl (some ⟨b, 0, none⟩) 1 1 5 1 [.int .u8 (x : Int)] :: r) K := by
  have hu : (UInt8.ofNat x).toNat = x := UInt8.toNat_ofNat_of_lt' hx
  refine CallOk.freeze (c := .sl (some ⟨b, 0, none⟩) _ _ _ _ _) Take.auto (fun ro1 hl1 hc1 => ?_)
  have hB : Bys ro1 (some ⟨b, 0, none⟩) [UInt8.ofNat x].length 1 [UInt8.ofNat x] := by
    have := Rs.last hc1
    show Rs ro1 _ 1 1 1 [.int .u8 ((UInt8.ofNat x).toNat : Int)]
    rw [hu]; exact this
  refine of_ok (l := [UInt8.ofNat x]) hB (by simp) (fun s h1 h2 => ?_)
  have : s = ofD x := SetD.ext h1 (of_in hx) fun d hd => by
    have e := h2 (UInt8.ofNat d)
    rw [UInt8.toNat_ofNat_of_lt' hd] at e
    rw [e, of_has hx hd, decide_eq_decide, List.mem_singleton]
    constructor
    · intro h; have := congrArg UInt8.toNat h; rwa [UInt8.toNat_ofNat_of_lt' hd, hu] at this
    · intro h; rw [h]
  rw [this]
  exact hk ro1 hl1
set_option maxHeartbeats 8000000 in
theorem atom_ok {s : RS} [hb : HasBlk own q 105 (rsV t s) g] {d : Nat} {x : Int} (ha : AltC t d) (hx : x = 32 - (d : Int)) (hd : d ≤ 32) (hi : Inv t s) (h0 : s.e = 0) (hn : s.n ≤ 512) (hl : t.length ≤ 10000)
    (hk : ∀ ro' v, Le ro ro' → RgOk ro' (atomD t (altD t d) s).1 v → K (.agg v.toArray) ro' (g (.blk q 105 (rsV t (atomD t (altD t d) s).2)))) :
    CallOk Tryz.prog 94 #[ptr' q, .int .i64 x] ro own K := by
  subst hx
  obtain ⟨r, p1, p2⟩ := hb.split
  refine CallOk.perm p1 ?_
  have hp := hi.p0 h0
  unfold atomD at hk
  refine CallOk.intro (args := [_, _]) (rs := [_]) T_ok Tryz.func94 Tryz.call94 rfl rfl (by kernel_rfl) rfl rfl ?_
  repeat (first | exact endA | refine wkP ?_ | refine opB (fun b => ?_) | refine opA (fun a' c' hc1 hc2 => ?_) | (apply GJ.and; exact rfl; intro hg) | (apply GJ.or; exact rfl; intro hg))
  obtain ⟨b4, hb4⟩ : ∃ z : Nat, z = b := ⟨_, rfl⟩
  subst hb4
  refine eat_ok (t := t) (s := s) 40 rfl (by decide) (by omega) ?_
  by_cases h40 : peekD t s = 40
  · rw [if_pos h40] at hk
    rw [decide_eq_true h40, eatS, if_pos h40]
    have hia := hi.adv (by rw [h40]; decide)
    repeat (first | exact endA | refine wkP ?_ | refine opB (fun b => ?_) | refine opA (fun a' c' hc1 hc2 => ?_) | (apply GJ.and; exact rfl; intro hg) | (apply GJ.or; exact rfl; intro hg))
    rw [show (32 : Int) - (d : Int) + 1 = 33 - (d : Int) by omega]
    refine ha inferInstance hia h0 hn (fun ro1 v hl1 hv => ?_)
    obtain ⟨a1, c1, hvc⟩ := hv.cells
    have hib : Inv t (altD t d s.adv).2 := Inv.alt hia
    have hpb := hib.p
    subst hvc
    repeat (first | exact endA | refine wkP ?_ | refine opB (fun b => ?_) | refine opA (fun a' c' hc1 hc2 => ?_) | (apply GJ.and; exact rfl; intro hg) | (apply GJ.or; exact rfl; intro hg))
    refine must_ok (t := t) (s := (altD t d s.adv).2) 41 rfl (by decide) (by omega) ?_
    repeat (first | exact endA | refine wkP ?_ | refine opB (fun b => ?_) | refine opA (fun a' c' hc1 hc2 => ?_) | (apply GJ.and; exact rfl; intro hg) | (apply GJ.or; exact rfl; intro hg))
    exact Wk.outS Sup.auto (p2 _) (hk ro1 _ hl1 hv)
  rw [if_neg h40] at hk
  rw [decide_eq_false h40, eatS, if_neg h40]
  repeat (first | exact endA | refine wkP ?_ | refine opB (fun b => ?_) | refine opA (fun a' c' hc1 hc2 => ?_) | (apply GJ.and; exact rfl; intro hg) | (apply GJ.or; exact rfl; intro hg))
  refine eat_ok (t := t) (s := s) 46 rfl (by decide) (by omega) ?_
  by_cases h46 : peekD t s = 46
  · rw [if_pos h46] at hk
    rw [decide_eq_true h46, eatS, if_pos h46]
    repeat (first | exact endA | refine wkP ?_ | refine opB (fun b => ?_) | refine opA (fun a' c' hc1 hc2 => ?_) | (apply GJ.and; exact rfl; intro hg) | (apply GJ.or; exact rfl; intro hg))
    refine all_ok ?_
    repeat (first | exact endA | refine wkP ?_ | refine opB (fun b => ?_) | refine opA (fun a' c' hc1 hc2 => ?_) | (apply GJ.and; exact rfl; intro hg) | (apply GJ.or; exact rfl; intro hg))
    refine node_ok (t := t) (s := s.adv) (k := 2) (z := allD) (a := none) (m := 0) (c := 0) (x := 0) (y := 0) (by show s.n ≤ _; omega) ?_
    repeat (first | exact endA | refine wkP ?_ | refine opB (fun b => ?_) | refine opA (fun a' c' hc1 hc2 => ?_) | (apply GJ.and; exact rfl; intro hg) | (apply GJ.or; exact rfl; intro hg))
    exact Wk.outS Sup.auto (p2 _) (hk ro _ (.refl _) (RgOk.leaf SetIn.all))
  rw [if_neg h46] at hk
  rw [decide_eq_false h46, eatS, if_neg h46]
  repeat (first | exact endA | refine wkP ?_ | refine opB (fun b => ?_) | refine opA (fun a' c' hc1 hc2 => ?_) | (apply GJ.and; exact rfl; intro hg) | (apply GJ.or; exact rfl; intro hg))
  refine eat_ok (t := t) (s := s) 91 rfl (by decide) (by omega) ?_
  by_cases h91 : peekD t s = 91
  · rw [if_pos h91] at hk
    rw [decide_eq_true h91, eatS, if_pos h91]
    repeat (first | exact endA | refine wkP ?_ | refine opB (fun b => ?_) | refine opA (fun a' c' hc1 hc2 => ?_) | (apply GJ.and; exact rfl; intro hg) | (apply GJ.or; exact rfl; intro hg))
    refine set_ok (t := t) (s := s.adv) s.p rfl hp (hi.adv (by rw [h91]; decide)) h0 hl ?_
    have hsn := set_n (t := t) (a := s.p) (s := s.adv)
    have hsi := setD_in (t := t) (a := s.p) (s := s.adv)
    have hsn : (setD t s.p s.adv).2.n = s.n := hsn
    generalize (setD t s.p s.adv).1 = z at hk hsi ⊢
    generalize (setD t s.p s.adv).2 = s2 at hk hsn ⊢
    repeat (first | exact endA | refine wkP ?_ | refine opB (fun b => ?_) | refine opA (fun a' c' hc1 hc2 => ?_) | (apply GJ.and; exact rfl; intro hg) | (apply GJ.or; exact rfl; intro hg))
    refine node_ok (t := t) (s := s2) (k := 2) (z := z) (a := none) (m := 0) (c := 0) (x := 0) (y := 0) (by omega) ?_
    repeat (first | exact endA | refine wkP ?_ | refine opB (fun b => ?_) | refine opA (fun a' c' hc1 hc2 => ?_) | (apply GJ.and; exact rfl; intro hg) | (apply GJ.or; exact rfl; intro hg))
    exact Wk.outS Sup.auto (p2 _) (hk ro _ (.refl _) (RgOk.leaf hsi))
  rw [if_neg h91] at hk
  rw [decide_eq_false h91, eatS, if_neg h91]
  repeat (first | exact endA | refine wkP ?_ | refine opB (fun b => ?_) | refine opA (fun a' c' hc1 hc2 => ?_) | (apply GJ.and; exact rfl; intro hg) | (apply GJ.or; exact rfl; intro hg))
  refine byte_ok (t := t) (s := s) (by omega) ?_
  have hbn := byte_n (t := t) (s := s)
  have hbl := byteD_lt (t := t) (s := s)
  generalize (byteD t s).1 = c at hk hbl ⊢
  generalize (byteD t s).2 = s2 at hk hbn ⊢
  repeat (first | exact endA | refine wkP ?_ | refine opB (fun b => ?_) | refine opA (fun a' c' hc1 hc2 => ?_) | (apply GJ.and; exact rfl; intro hg) | (apply GJ.or; exact rfl; intro hg))
  refine ofD_ok hbl (fun ro1 hl1 => ?_)
  have hoi := of_in hbl
  generalize ofD c = z at hk hoi ⊢
  repeat (first | exact endA | refine wkP ?_ | refine opB (fun b => ?_) | refine opA (fun a' c' hc1 hc2 => ?_) | (apply GJ.and; exact rfl; intro hg) | (apply GJ.or; exact rfl; intro hg))
  refine node_ok (t := t) (s := s2) (k := 2) (z := z) (a := none) (m := 0) (c := 0) (x := 0) (y := 0) (by omega) ?_
  repeat (first | exact endA | refine wkP ?_ | refine opB (fun b => ?_) | refine opA (fun a' c' hc1 hc2 => ?_) | (apply GJ.and; exact rfl; intro hg) | (apply GJ.or; exact rfl; intro hg))
  exact Wk.outS Sup.auto (p2 _) (hk ro1 _ hl1 (RgOk.leaf hoi))
end
end Go.Proofs.YtinbmhbfcoiefaaGreatDoor
end
section
/- Contracts of regex: repeat. -/
namespace Go.Proofs.YtinbmhbfcoiefaaGreatDoor
open Go Go.E
set_option linter.unusedVariables false
set_option linter.unusedSimpArgs false
set_option maxRecDepth 10000
theorem rep_none {t : List UInt8} {k : Nat} {n : RgD} {s : RS} (h1 : ¬ peekD t s = 42) (h2 : ¬ peekD t s = 43) (h3 : ¬ peekD t s = 63) (h4 : ¬ peekD t s = 123) : repL t k n s = (n, s) := by
  cases k with
  | zero => rfl
  | succ k => rw [repL, if_neg h1, if_neg h2, if_neg h3, if_neg h4]
theorem node_p (s : RS) : (nodeS s).p = s.p := by
  unfold nodeS RS.wrong
  repeat' split
  all_goals rfl
theorem counts_more {t : List UInt8} {s : RS} (h0 : s.e = 0) (h : (countsD t s).2.e = 0) : s.p ≤ (countsD t s).2.p := by
  obtain ⟨l, ⟨r1, _⟩, _⟩ := counts_sound h0 h
  rw [r1]; show s.p ≤ s.p + l.length; omega
/-- A kid that lies in a slice of its own. -/
theorem RgOk.rep {ro : Ro} {n : RgD} {v : List Value} {a : Option Addr} {x y : Int} (hv : RgOk ro n v) (hr : Rs ro a 1 1 8 v) : RgOk ro (repD n x y) (nodeV 5 zeroS a 1 1 x y) := by
  rw [repD, RgOk]
  exact ⟨a, 1, v, rfl, zeroS_in, hr, by rw [RgsOk]; exact ⟨v, [], by simp, hv, by rw [RgsOk]⟩⟩
section
variable {ro : Ro} {own r : Chs} {K : Value → Ro → Chs → Prop} {g : Chunk → Chs} {q : Nat} {t : List UInt8}
set_option maxHeartbeats 8000000 in
theorem repeat_ok {s : RS} [hb : HasBlk own q 105 (rsV t s) g] {d : Nat} {x : Int} (ha : AltC t d) (hx : x = 32 - (d : Int)) (hd : d ≤ 32) (hi : Inv t s) (h0 : s.e = 0) (hn : s.n ≤ 512) (hl : t.length ≤ 10000)
    (hk : ∀ ro' v, Le ro ro' → RgOk ro' (pieceD t (altD t d) s).1 v → K (.agg v.toArray) ro' (g (.blk q 105 (rsV t (pieceD t (altD t d) s).2)))) :
    CallOk Tryz.prog 85 #[ptr' q, .int .i64 x] ro own K := by
  obtain ⟨r, p1, p2⟩ := hb.split
  refine CallOk.perm p1 ?_
  have hp := hi.p0 h0
  unfold pieceD at hk
  obtain ⟨R, hR⟩ : ∃ R, R = repL t (t.length + 1) (atomD t (altD t d) s).1 (atomD t (altD t d) s).2 := ⟨_, rfl⟩
  rw [← hR] at hk
  have hia : Inv t (atomD t (altD t d) s).2 := hi.atom (fun h _ => Inv.alt h) h0
  have hna : NB (513 + 2 * d) (atomD t (altD t d) s).2 := NB.atom (by omega) (fun h0 hn => NB.alt h0 hn) h0 hn
  refine CallOk.intro (args := [_, _]) (rs := [_]) T_ok Tryz.func85 Tryz.call85 rfl rfl (by kernel_rfl) rfl rfl ?_
  repeat (first | exact endA | refine wkP ?_ | refine opB (fun b => ?_) | refine opA (fun a' c' hc1 hc2 => ?_) | (apply GJ.and; exact rfl; intro hg) | (apply GJ.or; exact rfl; intro hg))
  obtain ⟨b4, hb4⟩ : ∃ z : Nat, z = b := ⟨_, rfl⟩
  subst hb4
  refine atom_ok (t := t) (s := s) ha hx hd hi h0 hn hl (fun ro1 v hl1 hv => ?_)
  generalize (atomD t (altD t d) s).1 = n0 at hR hv
  generalize (atomD t (altD t d) s).2 = s0 at hR hia hna ⊢
  obtain ⟨a1, c1, hvc⟩ := hv.cells
  obtain ⟨V, hV⟩ : ∃ V, V = v := ⟨_, rfl⟩
  rw [← hV] at hv
  subst hvc
  repeat (first | exact endA | refine wkP ?_ | refine opB (fun b => ?_) | refine opA (fun a' c' hc1 hc2 => ?_) | (apply GJ.and; exact rfl; intro hg) | (apply GJ.or; exact rfl; intro hg))
  rw [← hV]
  clear hV
  obtain ⟨b5, hb5⟩ : ∃ z : Nat, z = b := ⟨_, rfl⟩
  subst hb5
  refine LoopOk.auto (ι := Nat × RgD × List Value × RS) Keep.auto (fun (k, n, v, s1) => []) (fun (k, n, v, s1) => .blk b5 26 v :: .blk b4 26 (nodeV 0 zeroS none 0 0 0 0) :: .blk q 105 (rsV t s1) :: r) (fun (k, n, v, s1) ro2 => RgOk ro2 n v ∧ repL t k n s1 = R ∧ (s1.e = 0 → t.length + 1 ≤ k + s1.p) ∧ Inv t s1 ∧ NB (513 + 2 * d) s1) (fun (k, n, v, s1) => k) (t.length + 1, n0, V, s0) ?_ Sub.auto Sup.auto ?_
  · exact ⟨hv, hR.symm, fun _ => by omega, hia, hna⟩
  rintro ⟨k, n, v, s1⟩ ro2 hl2 ⟨i1, i2, i3, i4, i5⟩
  dsimp only [List.cons_append, List.nil_append] at i1 i2 i3 i4 i5 ⊢
  have hp1 := i4.p
  have hn1 := i5.n
  obtain ⟨a2, c2, hvc⟩ := i1.cells
  subst hvc
  repeat (first | exact endA | refine wkP ?_ | refine opB (fun b => ?_) | refine opA (fun a' c' hc1 hc2 => ?_) | (apply GJ.and; exact rfl; intro hg) | (apply GJ.or; exact rfl; intro hg))
  refine eat_ok (t := t) (s := s1) 42 rfl (by decide) (by omega) ?_
  by_cases h42 : peekD t s1 = 42
  · have hpp := peek_pos (t := t) (s := s1) (by rw [h42]; decide)
    have h3 := i3 hpp.1
    obtain ⟨k, rfl⟩ : ∃ j, k = j + 1 := ⟨k - 1, by omega⟩
    rw [repL, if_pos h42] at i2
    rw [decide_eq_true h42, eatS, if_pos h42]
    have hn2 : s1.adv.n ≤ 10000000 := by show s1.n ≤ _; omega
    have hiv : Inv t s1.adv := i4.adv (by rw [h42]; decide)
    have hsm : NB 513 (nodeS s1.adv) := i5.small hpp.1 rfl
    have hm2 : (nodeS s1.adv).e = 0 → t.length + 1 ≤ k + (nodeS s1.adv).p := fun _ => by rw [node_p]; show _ ≤ k + (s1.p + 1); omega
    repeat (first | exact endA | refine wkP ?_ | refine opB (fun b => ?_) | refine opA (fun a' c' hc1 hc2 => ?_) | (apply GJ.and; exact rfl; intro hg) | (apply GJ.or; exact rfl; intro hg))
    refine CallOk.freeze (c := .sl (some ⟨b, 0, none⟩) _ _ _ _ _) Take.auto (fun ro3 hl3 hc3 => ?_)
    have hv3 : RgOk ro3 n (nodeV n.kind n.set a2 n.kids.length c2 n.min n.max) := i1.le hl3
    have hr3 : Rs ro3 (some ⟨b, 0, none⟩) 1 1 8 (nodeV n.kind n.set a2 n.kids.length c2 n.min n.max) := Rs.last hc3
    refine node_ok (t := t) (s := s1.adv) (k := 5) (z := zeroS) (a := some ⟨b, 0, none⟩) (m := 1) (c := 1) (x := 0) (y := (-1)) hn2 ?_
    repeat (first | exact endA | refine wkP ?_ | refine opB (fun b => ?_) | refine opA (fun a' c' hc1 hc2 => ?_) | (apply GJ.and; exact rfl; intro hg) | (apply GJ.or; exact rfl; intro hg))
    refine Wk.id ⟨(k, repD n 0 (-1), nodeV 5 zeroS (some ⟨b, 0, none⟩) 1 1 0 (-1), nodeS s1.adv), ?_, ?_, Sub.auto, Sup.auto⟩
    all_goals try dsimp only
    · exact ⟨hv3.rep hr3, i2, hm2, hiv.node, hsm.le (by omega)⟩
    · omega
  rw [decide_eq_false h42, eatS, if_neg h42]
  repeat (first | exact endA | refine wkP ?_ | refine opB (fun b => ?_) | refine opA (fun a' c' hc1 hc2 => ?_) | (apply GJ.and; exact rfl; intro hg) | (apply GJ.or; exact rfl; intro hg))
  refine eat_ok (t := t) (s := s1) 43 rfl (by decide) (by omega) ?_
  by_cases h43 : peekD t s1 = 43
  · have hpp := peek_pos (t := t) (s := s1) (by rw [h43]; decide)
    have h3 := i3 hpp.1
    obtain ⟨k, rfl⟩ : ∃ j, k = j + 1 := ⟨k - 1, by omega⟩
    rw [repL, if_neg h42, if_pos h43] at i2
    rw [decide_eq_true h43, eatS, if_pos h43]
    have hn2 : s1.adv.n ≤ 10000000 := by show s1.n ≤ _; omega
    have hiv : Inv t s1.adv := i4.adv (by rw [h43]; decide)
    have hsm : NB 513 (nodeS s1.adv) := i5.small hpp.1 rfl
    have hm2 : (nodeS s1.adv).e = 0 → t.length + 1 ≤ k + (nodeS s1.adv).p := fun _ => by rw [node_p]; show _ ≤ k + (s1.p + 1); omega
    repeat (first | exact endA | refine wkP ?_ | refine opB (fun b => ?_) | refine opA (fun a' c' hc1 hc2 => ?_) | (apply GJ.and; exact rfl; intro hg) | (apply GJ.or; exact rfl; intro hg))
    refine CallOk.freeze (c := .sl (some ⟨b, 0, none⟩) _ _ _ _ _) Take.auto (fun ro3 hl3 hc3 => ?_)
    have hv3 : RgOk ro3 n (nodeV n.kind n.set a2 n.kids.length c2 n.min n.max) := i1.le hl3
    have hr3 : Rs ro3 (some ⟨b, 0, none⟩) 1 1 8 (nodeV n.kind n.set a2 n.kids.length c2 n.min n.max) := Rs.last hc3
    refine node_ok (t := t) (s := s1.adv) (k := 5) (z := zeroS) (a := some ⟨b, 0, none⟩) (m := 1) (c := 1) (x := 1) (y := (-1)) hn2 ?_
    repeat (first | exact endA | refine wkP ?_ | refine opB (fun b => ?_) | refine opA (fun a' c' hc1 hc2 => ?_) | (apply GJ.and; exact rfl; intro hg) | (apply GJ.or; exact rfl; intro hg))
    refine Wk.id ⟨(k, repD n 1 (-1), nodeV 5 zeroS (some ⟨b, 0, none⟩) 1 1 1 (-1), nodeS s1.adv), ?_, ?_, Sub.auto, Sup.auto⟩
    all_goals try dsimp only
    · exact ⟨hv3.rep hr3, i2, hm2, hiv.node, hsm.le (by omega)⟩
    · omega
  rw [decide_eq_false h43, eatS, if_neg h43]
  repeat (first | exact endA | refine wkP ?_ | refine opB (fun b => ?_) | refine opA (fun a' c' hc1 hc2 => ?_) | (apply GJ.and; exact rfl; intro hg) | (apply GJ.or; exact rfl; intro hg))
  refine eat_ok (t := t) (s := s1) 63 rfl (by decide) (by omega) ?_
  by_cases h63 : peekD t s1 = 63
  · have hpp := peek_pos (t := t) (s := s1) (by rw [h63]; decide)
    have h3 := i3 hpp.1
    obtain ⟨k, rfl⟩ : ∃ j, k = j + 1 := ⟨k - 1, by omega⟩
    rw [repL, if_neg h42, if_neg h43, if_pos h63] at i2
    rw [decide_eq_true h63, eatS, if_pos h63]
    have hn2 : s1.adv.n ≤ 10000000 := by show s1.n ≤ _; omega
    have hiv : Inv t s1.adv := i4.adv (by rw [h63]; decide)
    have hsm : NB 513 (nodeS s1.adv) := i5.small hpp.1 rfl
    have hm2 : (nodeS s1.adv).e = 0 → t.length + 1 ≤ k + (nodeS s1.adv).p := fun _ => by rw [node_p]; show _ ≤ k + (s1.p + 1); omega
    repeat (first | exact endA | refine wkP ?_ | refine opB (fun b => ?_) | refine opA (fun a' c' hc1 hc2 => ?_) | (apply GJ.and; exact rfl; intro hg) | (apply GJ.or; exact rfl; intro hg))
    refine CallOk.freeze (c := .sl (some ⟨b, 0, none⟩) _ _ _ _ _) Take.auto (fun ro3 hl3 hc3 => ?_)
    have hv3 : RgOk ro3 n (nodeV n.kind n.set a2 n.kids.length c2 n.min n.max) := i1.le hl3
    have hr3 : Rs ro3 (some ⟨b, 0, none⟩) 1 1 8 (nodeV n.kind n.set a2 n.kids.length c2 n.min n.max) := Rs.last hc3
    refine node_ok (t := t) (s := s1.adv) (k := 5) (z := zeroS) (a := some ⟨b, 0, none⟩) (m := 1) (c := 1) (x := 0) (y := 1) hn2 ?_
    repeat (first | exact endA | refine wkP ?_ | refine opB (fun b => ?_) | refine opA (fun a' c' hc1 hc2 => ?_) | (apply GJ.and; exact rfl; intro hg) | (apply GJ.or; exact rfl; intro hg))
    refine Wk.id ⟨(k, repD n 0 1, nodeV 5 zeroS (some ⟨b, 0, none⟩) 1 1 0 1, nodeS s1.adv), ?_, ?_, Sub.auto, Sup.auto⟩
    all_goals try dsimp only
    · exact ⟨hv3.rep hr3, i2, hm2, hiv.node, hsm.le (by omega)⟩
    · omega
  rw [decide_eq_false h63, eatS, if_neg h63]
  repeat (first | exact endA | refine wkP ?_ | refine opB (fun b => ?_) | refine opA (fun a' c' hc1 hc2 => ?_) | (apply GJ.and; exact rfl; intro hg) | (apply GJ.or; exact rfl; intro hg))
  refine eat_ok (t := t) (s := s1) 123 rfl (by decide) (by omega) ?_
  by_cases h123 : peekD t s1 = 123
  · have hpp := peek_pos (t := t) (s := s1) (by rw [h123]; decide)
    have h3 := i3 hpp.1
    obtain ⟨k, rfl⟩ : ∃ j, k = j + 1 := ⟨k - 1, by omega⟩
    rw [repL, if_neg h42, if_neg h43, if_neg h63, if_pos h123] at i2
    rw [decide_eq_true h123, eatS, if_pos h123]
    have hiv : Inv t (countsD t s1.adv).2 := (i4.adv (by rw [h123]; decide)).counts hpp.2
    have hsm : NB 513 (nodeS (countsD t s1.adv).2) := i5.small hpp.1 counts_n
    have hn2 : (countsD t s1.adv).2.n ≤ 10000000 := by rw [counts_n]; show s1.n ≤ _; omega
    have hm2 : (nodeS (countsD t s1.adv).2).e = 0 → t.length + 1 ≤ k + (nodeS (countsD t s1.adv).2).p := fun he => by
      rw [node_p]
      have := counts_more (t := t) (s := s1.adv) hpp.1 (node_sound (t := t) he).2
      have e : s1.adv.p = s1.p + 1 := rfl
      omega
    repeat (first | exact endA | refine wkP ?_ | refine opB (fun b => ?_) | refine opA (fun a' c' hc1 hc2 => ?_) | (apply GJ.and; exact rfl; intro hg) | (apply GJ.or; exact rfl; intro hg))
    refine rcounts_ok (t := t) (s := s1.adv) hpp.1 (by show s1.p + 1 ≤ _; omega) hl ?_
    generalize (countsD t s1.adv).1.1 = lo at i2 ⊢
    generalize (countsD t s1.adv).1.2 = hi2 at i2 ⊢
    generalize (countsD t s1.adv).2 = s2 at i2 hiv hsm hn2 hm2 ⊢
    repeat (first | exact endA | refine wkP ?_ | refine opB (fun b => ?_) | refine opA (fun a' c' hc1 hc2 => ?_) | (apply GJ.and; exact rfl; intro hg) | (apply GJ.or; exact rfl; intro hg))
    refine CallOk.freeze (c := .sl (some ⟨b, 0, none⟩) _ _ _ _ _) Take.auto (fun ro3 hl3 hc3 => ?_)
    have hv3 : RgOk ro3 n (nodeV n.kind n.set a2 n.kids.length c2 n.min n.max) := i1.le hl3
    have hr3 : Rs ro3 (some ⟨b, 0, none⟩) 1 1 8 (nodeV n.kind n.set a2 n.kids.length c2 n.min n.max) := Rs.last hc3
    refine node_ok (t := t) (s := s2) (k := 5) (z := zeroS) (a := some ⟨b, 0, none⟩) (m := 1) (c := 1) (x := (lo : Int)) (y := hi2) hn2 ?_
    repeat (first | exact endA | refine wkP ?_ | refine opB (fun b => ?_) | refine opA (fun a' c' hc1 hc2 => ?_) | (apply GJ.and; exact rfl; intro hg) | (apply GJ.or; exact rfl; intro hg))
    refine Wk.id ⟨(k, repD n (lo : Int) hi2, nodeV 5 zeroS (some ⟨b, 0, none⟩) 1 1 (lo : Int) hi2, nodeS s2), ?_, ?_, Sub.auto, Sup.auto⟩
    all_goals try dsimp only
    · exact ⟨hv3.rep hr3, i2, hm2, hiv.node, hsm.le (by omega)⟩
    · omega
  rw [decide_eq_false h123, eatS, if_neg h123]
  rw [rep_none h42 h43 h63 h123] at i2
  rw [← i2] at hk
  repeat (first | exact endA | refine wkP ?_ | refine opB (fun b => ?_) | refine opA (fun a' c' hc1 hc2 => ?_) | (apply GJ.and; exact rfl; intro hg) | (apply GJ.or; exact rfl; intro hg))
  exact Wk.outS Sup.auto (p2 _) (hk ro2 _ (hl1.trans hl2) i1)
end
end Go.Proofs.YtinbmhbfcoiefaaGreatDoor
end
section
/- Contracts of regex: cat. -/
namespace Go.Proofs.YtinbmhbfcoiefaaGreatDoor
open Go Go.E
set_option linter.unusedVariables false
set_option linter.unusedSimpArgs false
set_option maxRecDepth 10000
theorem cat_none {t : List UInt8} {alt : RS → RgD × RS} {k : Nat} {l : List RgD} {s : RS} (h : peekD t s = 0 ∨ peekD t s = 124 ∨ peekD t s = 41) : catL t alt k l s = (l, s) := by
  cases k with
  | zero => rfl
  | succ k => rw [catL, if_neg (fun x => by omega)]
theorem RgOk.many {ro : Ro} {k : Int} {l : List RgD} {cs : List Value} {a : Option Addr} {c : Nat} (hl : RgsOk ro l cs) (hr : Rs ro a l.length c 8 cs) : RgOk ro (.mk k zeroS l 0 0) (nodeV k zeroS a l.length c 0 0) := by
  rw [RgOk]; exact ⟨a, c, cs, rfl, zeroS_in, hr, hl⟩
theorem RgsOk.single {ro : Ro} {n : RgD} {cs : List Value} (h : RgsOk ro [n] cs) : RgOk ro n cs := by
  rw [RgsOk] at h
  obtain ⟨v, r, rfl, h1, h2⟩ := h
  rw [RgsOk] at h2; subst h2
  rw [List.append_nil]; exact h1
theorem piece_more {t : List UInt8} {d : Nat} {s : RS} (h : (pieceD t (altD t d) s).2.e = 0) : s.p + 1 ≤ (pieceD t (altD t d) s).2.p := by
  obtain ⟨l, ⟨r1, _⟩, hp⟩ := piece_sound (t := t) (alt := altD t d) ⟨fun h => alt_sound h, fun h => alt_keep h⟩ h
  obtain ⟨x, m, hx, _⟩ := hp.head
  rw [r1, hx]; show s.p + 1 ≤ s.p + (m.length + 1); omega
section
variable {ro : Ro} {own r : Chs} {K : Value → Ro → Chs → Prop} {g : Chunk → Chs} {q : Nat} {t : List UInt8}
set_option maxHeartbeats 8000000 in
theorem cat_ok {s : RS} [hb : HasBlk own q 105 (rsV t s) g] {d : Nat} {x : Int} (ha : AltC t d) (hx : x = 32 - (d : Int)) (hd : d ≤ 32) (hi : Inv t s) (h0 : s.e = 0) (hn : s.n ≤ 512) (hl : t.length ≤ 10000)
    (hk : ∀ ro' v, Le ro ro' → RgOk ro' (catD t (altD t d) s).1 v → K (.agg v.toArray) ro' (g (.blk q 105 (rsV t (catD t (altD t d) s).2)))) :
    CallOk Tryz.prog 64 #[ptr' q, .int .i64 x] ro own K := by
  obtain ⟨r, p1, p2⟩ := hb.split
  refine CallOk.perm p1 ?_
  have hp := hi.p0 h0
  unfold catD at hk
  obtain ⟨R, hR⟩ : ∃ R, R = catL t (altD t d) (t.length + 1) [] s := ⟨_, rfl⟩
  rw [← hR] at hk
  refine CallOk.intro (args := [_, _]) (rs := [_]) T_ok Tryz.func64 Tryz.call64 rfl rfl (by kernel_rfl) rfl rfl ?_
  repeat (first | exact endA | refine wkP ?_ | refine opB (fun b => ?_) | refine opA (fun a' c' hc1 hc2 => ?_) | (apply GJ.and; exact rfl; intro hg) | (apply GJ.or; exact rfl; intro hg))
  obtain ⟨b4, hb4⟩ : ∃ z : Nat, z = b := ⟨_, rfl⟩
  subst hb4
  refine peek_ok (t := t) (s := s) ?_
  repeat (first | exact endA | refine wkP ?_ | refine opB (fun b => ?_) | refine opA (fun a' c' hc1 hc2 => ?_) | (apply GJ.and; exact rfl; intro hg) | (apply GJ.or; exact rfl; intro hg))
  refine LoopOk.auto (ι := Nat × List RgD × List Value × RS × Option Addr × Nat) Keep.auto (fun (k, l, cs, s1, ad, cp) => [(5, .slice ad l.length cp), (6, .int .u8 (peekD t s1 : Int))]) (fun (k, l, cs, s1, ad, cp) => .sl ad l.length cp 26 8 cs :: .blk b4 26 (nodeV 0 zeroS none 0 0 0 0) :: .blk q 105 (rsV t s1) :: r) (fun (k, l, cs, s1, ad, cp) ro2 => RgsOk ro2 l cs ∧ catL t (altD t d) k l s1 = R ∧ (s1.e = 0 → t.length + 1 ≤ k + s1.p ∧ l.length ≤ s1.p) ∧ l.length ≤ t.length + 1 ∧ Inv t s1 ∧ NB (513 + 2 * d) s1 ∧ l.length ≤ cp ∧ cp ≤ maxLen) (fun (k, l, cs, s1, ad, cp) => k) (t.length + 1, [], [], s, none, 0) ?_ Sub.auto Sup.auto ?_
  · exact ⟨by rw [RgsOk], hR.symm, fun _ => ⟨by omega, Nat.zero_le _⟩, Nat.zero_le _, hi, ⟨fun _ => hn, by omega⟩, Nat.zero_le _, Nat.zero_le _⟩
  rintro ⟨k, l, cs, s1, ad, cp⟩ ro2 hl2 ⟨i1, i2, i3, i4, i5, i6, i7, i8⟩
  dsimp only [List.cons_append, List.nil_append] at i1 i2 i3 i4 i5 i6 i7 i8 ⊢
  have hp1 := i5.p
  have hn1 := i6.n
  have hL : cs.length = l.length * 8 := i1.len
  have hlt := peek_lt t s1
  by_cases hgo : peekD t s1 = 0 ∨ peekD t s1 = 124 ∨ peekD t s1 = 41
  · rw [cat_none hgo] at i2
    rw [← i2] at hk
    have hgo : ((peekD t s1 : Int) = 0 ∨ (peekD t s1 : Int) = 124 ∨ (peekD t s1 : Int) = 41) := by omega
    generalize (peekD t s1 : Int) = c at hgo ⊢
    have hgc : ¬ (c ≠ 0 ∧ c ≠ 124 ∧ c ≠ 41) := by omega
    repeat (first | exact endA | refine wkP ?_ | refine opB (fun b => ?_) | refine opA (fun a' c' hc1 hc2 => ?_) | (apply GJ.and; exact rfl; intro hg) | (apply GJ.or; exact rfl; intro hg))
    rcases l with _ | ⟨x1, _ | ⟨y1, l1⟩⟩
    · refine Br.t rfl ?_
      repeat (first | exact endA | refine wkP ?_ | refine opB (fun b => ?_) | refine opA (fun a' c' hc1 hc2 => ?_) | (apply GJ.and; exact rfl; intro hg) | (apply GJ.or; exact rfl; intro hg))
      refine node_ok (t := t) (s := s1) (k := 1) (z := zeroS) (a := none) (m := 0) (c := 0) (x := 0) (y := 0) (by omega) ?_
      repeat (first | exact endA | refine wkP ?_ | refine opB (fun b => ?_) | refine opA (fun a' c' hc1 hc2 => ?_) | (apply GJ.and; exact rfl; intro hg) | (apply GJ.or; exact rfl; intro hg))
      exact Wk.outS Sup.auto (p2 _) (hk ro2 _ hl2 (RgOk.leaf zeroS_in))
    · rw [show ([x1] : List RgD).length = 1 from rfl] at i4 i7 hL ⊢
      have hv := i1.single
      obtain ⟨a1, c1, hvc⟩ := hv.cells
      subst hvc
      refine Br.f (by simp) ?_
      repeat (first | exact endA | refine wkP ?_ | refine opB (fun b => ?_) | refine opA (fun a' c' hc1 hc2 => ?_) | (apply GJ.and; exact rfl; intro hg) | (apply GJ.or; exact rfl; intro hg))
      refine OpOk.loadRow rfl rfl (LdN.slRow (k := 0) (z := 8) (cs := nodeV x1.kind x1.set a1 x1.kids.length c1 x1.min x1.max) (vs := nodeV x1.kind x1.set a1 x1.kids.length c1 x1.min x1.max) rfl) rfl ?_
      repeat (first | exact endA | refine wkP ?_ | refine opB (fun b => ?_) | refine opA (fun a' c' hc1 hc2 => ?_) | (apply GJ.and; exact rfl; intro hg) | (apply GJ.or; exact rfl; intro hg))
      exact Wk.outS Sup.auto (p2 _) (hk ro2 _ hl2 hv)
    · have hlen : 2 ≤ (x1 :: y1 :: l1).length := by simp
      have hcat : catOf (x1 :: y1 :: l1, s1) = (catD' (x1 :: y1 :: l1), nodeS s1) := rfl
      rw [hcat] at hk
      generalize x1 :: y1 :: l1 = l at hk i1 i2 i3 i4 i7 hL hlen ⊢
      repeat (first | exact endA | refine wkP ?_ | refine opB (fun b => ?_) | refine opA (fun a' c' hc1 hc2 => ?_) | (apply GJ.and; exact rfl; intro hg) | (apply GJ.or; exact rfl; intro hg))
      refine CallOk.freeze (c := .sl ad _ _ _ _ _) Take.auto (fun ro3 hl3 hc3 => ?_)
      have hw := RgOk.many (k := 3) (i1.le hl3) (Rs.last hc3)
      refine node_ok (t := t) (s := s1) (k := 3) (z := zeroS) (a := ad) (m := l.length) (c := cp) (x := 0) (y := 0) (by omega) ?_
      repeat (first | exact endA | refine wkP ?_ | refine opB (fun b => ?_) | refine opA (fun a' c' hc1 hc2 => ?_) | (apply GJ.and; exact rfl; intro hg) | (apply GJ.or; exact rfl; intro hg))
      exact Wk.outS Sup.auto (p2 _) (hk ro3 _ (hl2.trans hl3) hw)
  · have hpp := peek_pos (t := t) (s := s1) (by omega)
    obtain ⟨h3, h4⟩ := i3 hpp.1
    obtain ⟨k, rfl⟩ : ∃ j, k = j + 1 := ⟨k - 1, by omega⟩
    rw [catL, if_pos (by omega)] at i2
    have hgo : ¬ (peekD t s1 : Int) = 0 ∧ ¬ (peekD t s1 : Int) = 124 ∧ ¬ (peekD t s1 : Int) = 41 := by omega
    have hin : Inv t (pieceD t (altD t d) s1).2 := i5.piece (fun h _ => Inv.alt h) hpp.1
    have hnn : NB (513 + 2 * d) (pieceD t (altD t d) s1).2 := NB.piece (by omega) (fun h0 hn => NB.alt h0 hn) hpp.1 (i6.n0 hpp.1)
    have hmore := piece_more (t := t) (d := d) (s := s1)
    generalize (peekD t s1 : Int) = c at hgo ⊢
    obtain ⟨g1, g2, g3⟩ := hgo
    repeat (first | exact endA | refine wkP ?_ | refine opB (fun b => ?_) | refine opA (fun a' c' hc1 hc2 => ?_) | (apply GJ.and; exact rfl; intro hg) | (apply GJ.or; exact rfl; intro hg))
    refine repeat_ok (t := t) (s := s1) ha hx hd i5 hpp.1 (i6.n0 hpp.1) hl (fun ro3 v hl3 hv => ?_)
    generalize (pieceD t (altD t d) s1).1 = n at i2 hv
    generalize (pieceD t (altD t d) s1).2 = s2 at i2 hin hnn hmore ⊢
    obtain ⟨a1, c1, hvc⟩ := hv.cells
    subst hvc
    repeat (first | exact endA | refine wkP ?_ | refine opB (fun b => ?_) | refine opA (fun a' c' hc1 hc2 => ?_) | (apply GJ.and; exact rfl; intro hg) | (apply GJ.or; exact rfl; intro hg))
    rw [show l.length + 1 = (l ++ [n]).length by simp] at hc1 ⊢
    repeat (first | exact endA | refine wkP ?_ | refine opB (fun b => ?_) | refine opA (fun a' c' hc1 hc2 => ?_) | (apply GJ.and; exact rfl; intro hg) | (apply GJ.or; exact rfl; intro hg))
    refine peek_ok (t := t) (s := s2) ?_
    repeat (first | exact endA | refine wkP ?_ | refine opB (fun b => ?_) | refine opA (fun a' c' hc1 hc2 => ?_) | (apply GJ.and; exact rfl; intro hg) | (apply GJ.or; exact rfl; intro hg))
    refine Wk.id ⟨(k, l ++ [n], cs ++ nodeV n.kind n.set a1 n.kids.length c1 n.min n.max, s2, a', c'), ?_, ?_, Sub.auto, Sup.auto⟩
    all_goals try dsimp only
    · refine ⟨RgsOk.snoc hv (i1.le hl3), i2, fun he => ?_, by simp; omega, hin, hnn, hc1, hc2⟩
      have := hmore he
      simp; omega
    · omega
end
end Go.Proofs.YtinbmhbfcoiefaaGreatDoor
end
section
/- Contracts of nfa: node, repeat. -/
namespace Go.Proofs.YtinbmhbfcoiefaaGreatDoor
open Go Go.E
set_option linter.unusedVariables false
set_option linter.unusedSimpArgs false
set_option maxRecDepth 10000
/-- How many edges there are, and how many more may come by states. -/
def budN (st : StD) : Nat := edgesN st + 4 * (4096 - st.rows.length)
def stM (R : List RowM) (full : Bool) : StD := ⟨rowsOf R, full⟩
theorem stM_len (R : List RowM) (full : Bool) : (stM R full).rows.length = R.length := by simp [stM, rowsOf]
theorem stM_eq {R : List RowM} {st : StD} (h : rowsOf R = st.rows) : stM R st.full = st := by unfold stM; rw [h]
theorem row_ofM {R : List RowM} {full : Bool} {f : Nat} {row : RowM} (h : R[f]? = some row) : row.2.length ≤ edgesN (stM R full) := by
  refine row_edges (f := f) ?_
  unfold stM rowsOf
  rw [List.getElem?_map, h]; rfl
theorem bud_state (st : StD) (h : StOk st) : budN (stateN st).2 ≤ budN st ∧ ((stateN st).2.full = false → budN (stateN st).2 + 4 ≤ budN st) := by
  have h1 := edges_state st
  have h2 := state_len st
  have h3 := h.le
  unfold budN
  refine ⟨by rw [h1, h2]; split <;> omega, fun hf => ?_⟩
  rw [state_full] at hf
  split at hf
  · cases hf
  · rename_i h4
    rw [h1, h2, if_neg h4]; omega
theorem bud_edge (f : Nat) (x : EdgeD) (st : StD) : budN (edgeN f x st) ≤ budN st + 1 := by
  have h1 := edges_edge f x st
  have h2 := edge_len f x st
  unfold budN; rw [h2]; omega
theorem bud_made {c s : Nat} {st : StD} {p : Nat × StD} (h : Made c s st p) : budN p.2 ≤ budN st + 4 * s ∧ (p.2.full = false → budN p.2 ≤ budN st) := by
  have h1 := h.grow
  have h2 := h.ok.le
  unfold budN
  exact ⟨by have := h.edges1; omega, fun hf => by have := h.edges0 hf; omega⟩
/-- What is asked of the making of an expression's automaton: just what nodeN says comes of it. -/
structure NodeC (n : RgD) : Prop where
  run : ∀ {ro : Ro} {r : Chs} {K : Value → Ro → Chs → Prop} {q c f : Nat} {a : Option Addr} {e : Int} {full : Bool} {R : List RowM} {v : List Value}, RgOk ro n v → wrongD n = 0 → StOk (stM R full) → f < R.length → (full = true ∨ budN (stM R full) + 4 * sizeD n ≤ 900000) →
    (∀ a' c' R', rowsOf R' = (nodeN n f (stM R full)).2.rows → K (.int .i64 ((nodeN n f (stM R full)).1 : Int)) ro (mkC q a' c' e (nodeN n f (stM R full)).2.full R' r)) →
    CallOk Tryz.prog 45 #[ptr' q, .agg v.toArray, .int .i64 (f : Int)] ro (mkC q a c e full R r) K
section
variable {ro : Ro} {own r : Chs} {K : Value → Ro → Chs → Prop} {g : Chunk → Chs}
/-- state, as told of the maker's state. -/
theorem nstate_st {q c : Nat} {a : Option Addr} {e : Int} {full : Bool} {R : List RowM} (ho : StOk (stM R full))
    (hk : ∀ a' c' R', stM R' (stateN (stM R full)).2.full = (stateN (stM R full)).2 → K (.int .i64 ((stateN (stM R full)).1 : Int)) ro (mkC q a' c' e (stateN (stM R full)).2.full R' r)) :
    CallOk Tryz.prog 44 #[ptr' q] ro (mkC q a c e full R r) K :=
  nstate_ok (by have := ho.le; rw [stM_len] at this; exact this) fun a' c' R' h => hk a' c' R' (stM_eq h)
theorem nedge_st {q c : Nat} {a : Option Addr} {e : Int} {full : Bool} {R : List RowM} {f : Nat} {x : EdgeD} (ho : StOk (stM R full)) (hf : f < R.length) (hb : budN (stM R full) ≤ 1000000)
    (hk : ∀ R', stM R' full = edgeN f x (stM R full) → K (.tuple #[]) ro (mkC q a c e full R' r)) :
    CallOk Tryz.prog 68 #[ptr' q, .int .i64 (f : Int), .agg (edgeV x).toArray] ro (mkC q a c e full R r) K := by
  obtain ⟨row, hr⟩ : ∃ row, R[f]? = some row := ⟨_, List.getElem?_eq_getElem hf⟩
  refine nedge_ok hr ?_ (by have := ho.le; rw [stM_len] at this; exact this) fun R' h1 h2 => hk R' ?_
  · have := row_ofM (full := full) hr
    unfold budN at hb; omega
  · have := stM_eq h1
    exact this
theorem mk_in2 (x y : Chunk) (q : Nat) (a : Option Addr) (c : Nat) (e : Int) (full : Bool) (R : List RowM) (r : Chs) : (x :: y :: mkC q a c e full R r).Perm (mkC q a c e full R (x :: y :: r)) :=
  ((mk_in y q a c e full R r).cons x).trans (mk_in x q a c e full R (y :: r))
theorem dropN_cons {α : Type} {l : List α} {i : Nat} {x : α} (h : l[i]? = some x) : l.drop i = x :: l.drop (i + 1) := by
  obtain ⟨h1, h2⟩ := List.getElem?_eq_some_iff.1 h
  rw [List.drop_eq_getElem_cons h1, h2]
theorem cat_cons (x : RgD) (l : List RgD) (f : Nat) (st : StD) : catN (x :: l) f st = catN l (nodeN x f st).1 (nodeN x f st).2 := by rw [catN]
theorem alt_cons (x : RgD) (l : List RgD) (f to : Nat) (st : StD) : altN (x :: l) f to st = altN l f to (altN [x] f to st) := by rw [altN, altN, altN]
theorem alt_one (x : RgD) (f to : Nat) (st : StD) : altN [x] f to st = edgeN (nodeN x (stateN st).1 (edgeN f (freeE (stateN st).1) (stateN st).2)).1 (freeE to) (nodeN x (stateN st).1 (edgeN f (freeE (stateN st).1) (stateN st).2)).2 := by rw [altN, altN]
theorem rep_min (F : NodeF) (k f : Nat) (st : StD) (h : st.full = false) : minN F (k + 1) f st = minN F k (F f st).1 (F f st).2 := by rw [minN, if_neg (by rw [h]; decide)]
theorem rep_full (F : NodeF) (k f : Nat) (st : StD) (h : st.full = true) : minN F (k + 1) f st = (true, 0, st) := by rw [minN, if_pos h]
theorem rep_max (F : NodeF) (to k f : Nat) (st : StD) (h : st.full = false) : maxN F to (k + 1) f st = maxN F to k (oneN F to f st).1 (oneN F to f st).2 := by rw [maxN, if_neg (by rw [h]; decide)]
theorem rep_maxF (F : NodeF) (to k f : Nat) (st : StD) (h : st.full = true) : maxN F to (k + 1) f st = (true, 0, st) := by rw [maxN, if_pos h]
set_option maxHeartbeats 16000000 in
theorem nrepeat_ok {x : RgD} (ih : NodeC x) {q c f : Nat} {a : Option Addr} {e : Int} {R : List RowM} {z : SetD} {mn mx : Int} {ad : Option Addr} {cp : Nat} {v : List Value} (hrs : Rs ro ad 1 cp 8 v) (hvv : RgOk ro x v) (hw : wrongD x = 0) (h : ¬ (mn < 0 ∨ 256 < mn ∨ 256 < mx ∨ (0 ≤ mx ∧ mx < mn)))
    (ho : StOk (stM R false)) (hf : f < R.length) (hb : budN (stM R false) + 4 * sizeD x + 4 ≤ 900000)
    (hk : ∀ a' c' R', rowsOf R' = (repeatN (nodeN x) mn mx f (stM R false)).2.rows → K (.int .i64 ((repeatN (nodeN x) mn mx f (stM R false)).1 : Int)) ro (mkC q a' c' e (repeatN (nodeN x) mn mx f (stM R false)).2.full R' r)) :
    CallOk Tryz.prog 69 #[ptr' q, .agg (nodeV 5 z ad 1 cp mn mx).toArray, .int .i64 (f : Int)] ro (mkC q a c e false R r) K := by
  have hM := made_node x hw
  obtain ⟨ak, ck, hvk⟩ := hvv.cells
  have hvk0 : (v.drop 0).take 8 = nodeV x.kind x.set ak x.kids.length ck x.min x.max := by rw [hvk]; rfl
  rw [hvk] at hvv
  have hRl := stM_len R false
  unfold repeatN at hk
  obtain ⟨n, hn⟩ : ∃ n : Nat, mn = (n : Int) := ⟨mn.toNat, by omega⟩
  have hmn : mn.toNat = n := by omega
  rw [hmn] at hk
  refine CallOk.intro (args := [_, _, _]) (rs := [_]) T_ok Tryz.func69 Tryz.call69 rfl rfl (by kernel_rfl) rfl rfl ?_
  repeat (first | exact endA | refine wkP ?_ | refine opB (fun b => ?_) | refine opA (fun a' c' hc1 hc2 => ?_) | (apply GJ.and; exact rfl; intro hg) | (apply GJ.or; exact rfl; intro hg))
  obtain ⟨bN, hbN⟩ : ∃ z : Nat, z = b := ⟨_, rfl⟩
  subst hbN
  refine LoopOk.at (ι := Nat × Nat × List RowM × Bool × Option Addr × Nat) Keep.auto (fun (i, fi, R2, u2, a2, c2) => [(12, .int .i64 (i : Int)), (2, .int .i64 (fi : Int))]) (fun (i, fi, R2, u2, a2, c2) => .blk bN 26 (nodeV 5 z ad 1 cp mn mx) :: mkC q a2 c2 e u2 R2 r) (fun (i, fi, R2, u2, a2, c2) => i ≤ n ∧ minN (nodeN x) n f (stM R false) = minN (nodeN x) (n - i) fi (stM R2 u2) ∧ StOk (stM R2 u2) ∧ fi < R2.length ∧ budN (stM R2 u2) ≤ budN (stM R false) + 4 * sizeD x ∧ (u2 = false → budN (stM R2 u2) ≤ budN (stM R false))) (fun (i, fi, R2, u2, a2, c2) => n - i) (0, f, R, false, a, c) ?_ Sub.auto Sup.auto ?_
  · exact ⟨Nat.zero_le _, rfl, ho, hf, by omega, fun _ => Nat.le_refl _⟩
  rintro ⟨i, fi, R2, u2, a2, c2⟩ ⟨i1, i2, i3, i4, i5, i6⟩
  dsimp only [List.cons_append, List.nil_append] at i1 i2 i3 i4 i5 i6 ⊢
  have hR2 := stM_len R2 u2
  by_cases hi : i < n
  · rw [show n - i = (n - (i + 1)) + 1 by omega] at i2
    cases u2 with
    | true =>
      rw [rep_full _ _ _ _ rfl] at i2
      rw [i2] at hk
      repeat (first | exact endA | refine wkP ?_ | refine opB (fun b => ?_) | refine opA (fun a' c' hc1 hc2 => ?_) | (apply GJ.and; exact rfl; intro hg) | (apply GJ.or; exact rfl; intro hg))
      exact Wk.own _ (Sup.drop _ (Sup.all _)) (Wk.id (hk a2 c2 R2 rfl))
    | false =>
      rw [rep_min _ _ _ _ rfl] at i2
      have hmd := (hM fi (stM R2 false) i3 (by omega)).1
      have hbd := bud_made hmd
      have i6 := i6 rfl
      repeat (first | exact endA | refine wkP ?_ | refine opB (fun b => ?_) | refine opA (fun a' c' hc1 hc2 => ?_) | (apply GJ.and; exact rfl; intro hg) | (apply GJ.or; exact rfl; intro hg))
      refine OpOk.loadRow rfl rfl (LdN.at (k := 0) hrs hvk0) rfl ?_
      repeat (first | exact endA | refine wkP ?_ | refine opB (fun b => ?_) | refine opA (fun a' c' hc1 hc2 => ?_) | (apply GJ.and; exact rfl; intro hg) | (apply GJ.or; exact rfl; intro hg))
      refine CallOk.perm (mk_in _ _ _ _ _ _ _ _) ?_
      refine ih.run hvv hw i3 i4 (.inr (by omega)) (fun a3 c3 R3 h3 => ?_)
      have e3 := stM_eq h3
      generalize nodeN x fi (stM R2 false) = p at *
      have hlt := hmd.lt
      have l3 : R3.length = p.2.rows.length := by rw [← e3, stM_len]
      repeat (first | exact endA | refine wkP ?_ | refine opB (fun b => ?_) | refine opA (fun a' c' hc1 hc2 => ?_) | (apply GJ.and; exact rfl; intro hg) | (apply GJ.or; exact rfl; intro hg))
      refine Wk.perm (mk_in _ _ _ _ _ _ _ _).symm ?_
      refine Wk.id ⟨(i + 1, p.1, R3, p.2.full, a3, c3), ⟨rfl, ?_⟩, ?_, Sub.auto, Sup.auto⟩
      all_goals try dsimp only
      · exact ⟨by omega, by rw [e3]; exact i2, by rw [e3]; exact hmd.ok, by omega, by rw [e3]; omega, fun hu => by rw [e3]; have := hbd.2 hu; omega⟩
      · omega
  · obtain rfl : i = n := by omega
    rw [Nat.sub_self, minN] at i2
    rw [i2] at hk
    dsimp only at hk
    repeat (first | exact endA | refine wkP ?_ | refine opB (fun b => ?_) | refine opA (fun a' c' hc1 hc2 => ?_) | (apply GJ.and; exact rfl; intro hg) | (apply GJ.or; exact rfl; intro hg))
    refine CallOk.perm (mk_in _ _ _ _ _ _ _ _) ?_
    refine nstate_st i3 (fun a0 c0 R0 h0 => ?_)
    have m0 := made_state i3
    have d0 := (bud_state _ i3).1
    have d1 := (bud_state _ i3).2
    have k0 := m0.keep
    have g0 := m0.grow
    have t0 := m0.lt
    have o0 := m0.ok
    generalize stateN (stM R2 u2) = p0 at *
    have l0 : R0.length = p0.2.rows.length := by rw [← h0, stM_len]
    by_cases hmx : mx < 0
    · rw [if_pos hmx] at hk
      unfold loopN at hk
      dsimp only at hk
      repeat (first | exact endA | refine wkP ?_ | refine opB (fun b => ?_) | refine opA (fun a' c' hc1 hc2 => ?_) | (apply GJ.and; exact rfl; intro hg) | (apply GJ.or; exact rfl; intro hg))
      refine nstate_st (by rw [h0]; exact o0) (fun a3 c3 R3 h3 => ?_)
      rw [h0] at h3
      rw [h0]
      have m1 := made_state o0
      have t1 := m1.lt
      have b1 := (bud_state _ o0).1
      have b2 := (bud_state _ o0).2
      have k1 := m1.keep
      have g1 := m1.grow
      have o1 := m1.ok
      generalize stateN p0.2 = p1 at *
      have l3 : R3.length = p1.2.rows.length := by rw [← h3, stM_len]
      repeat (first | exact endA | refine wkP ?_ | refine opB (fun b => ?_) | refine opA (fun a' c' hc1 hc2 => ?_) | (apply GJ.and; exact rfl; intro hg) | (apply GJ.or; exact rfl; intro hg))
      refine nedge_st (x := freeE p1.1) (by rw [h3]; exact o1) (by omega) (by rw [h3]; omega) (fun R4 h4 => ?_)
      rw [h3] at h4
      have o2 : StOk (edgeN fi (freeE p1.1) p1.2) := o1.edge t1
      have e2 := edge_len fi (freeE p1.1) p1.2
      have b3 := bud_edge fi (freeE p1.1) p1.2
      have u3 := edge_full fi (freeE p1.1) p1.2
      generalize edgeN fi (freeE p1.1) p1.2 = s2 at *
      have l4 : R4.length = s2.rows.length := by rw [← h4, stM_len]
      repeat (first | exact endA | refine wkP ?_ | refine opB (fun b => ?_) | refine opA (fun a' c' hc1 hc2 => ?_) | (apply GJ.and; exact rfl; intro hg) | (apply GJ.or; exact rfl; intro hg))
      refine nedge_st (x := freeE p0.1) (by rw [h4]; exact o2) (by omega) (by rw [h4]; omega) (fun R5 h5 => ?_)
      rw [h4] at h5
      have o3 : StOk (edgeN p1.1 (freeE p0.1) s2) := o2.edge (show p0.1 < s2.rows.length by omega)
      have e3 := edge_len p1.1 (freeE p0.1) s2
      have b4 := bud_edge p1.1 (freeE p0.1) s2
      have u4 := edge_full p1.1 (freeE p0.1) s2
      generalize edgeN p1.1 (freeE p0.1) s2 = s3 at *
      have l5 : R5.length = s3.rows.length := by rw [← h5, stM_len]
      have hmd := (hM p1.1 s3 o3 (by omega)).1
      have hmd2 := (hM p1.1 s3 o3 (by omega)).2
      have hmb := bud_made hmd
      repeat (first | exact endA | refine wkP ?_ | refine opB (fun b => ?_) | refine opA (fun a' c' hc1 hc2 => ?_) | (apply GJ.and; exact rfl; intro hg) | (apply GJ.or; exact rfl; intro hg))
      refine OpOk.loadRow rfl rfl (LdN.at (k := 0) hrs hvk0) rfl ?_
      repeat (first | exact endA | refine wkP ?_ | refine opB (fun b => ?_) | refine opA (fun a' c' hc1 hc2 => ?_) | (apply GJ.and; exact rfl; intro hg) | (apply GJ.or; exact rfl; intro hg))
      refine ih.run hvv hw (by rw [h5]; exact o3) (by omega) (by
        rw [h5]
        cases hu : p1.2.full with
        | true => exact .inl rfl
        | false =>
          have hu0 : p0.2.full = false := by cases hh : p0.2.full with
            | false => rfl
            | true => rw [k1 hh] at hu; cases hu
          have hu2 : u2 = false := by cases hh : u2 with
            | false => rfl
            | true => have := k0 hh; rw [this] at hu0; cases hu0
          have := b2 hu; have := d1 hu0; have := i6 hu2
          exact .inr (by omega)) (fun a6 c6 R6 h6 => ?_)
      rw [h5] at h6
      have e6 := stM_eq h6
      rw [h5]
      have hbb : budN (nodeN x p1.1 s3).2 ≤ 900000 + 100 := by
        cases hu : s3.full with
        | true =>
          have h1 := hmd2 hu
          have h2 := hmd.grow
          have h3 := full_len o3 hmd.ok h2 hu
          unfold budN at *; omega
        | false =>
          have hu1 : p1.2.full = false := by rw [← u3, ← u4]; exact hu
          have hu0 : p0.2.full = false := by cases hh : p0.2.full with
            | false => rfl
            | true => rw [k1 hh] at hu1; cases hu1
          have hu2 : u2 = false := by cases hh : u2 with
            | false => rfl
            | true => have := k0 hh; rw [this] at hu0; cases hu0
          have := b2 hu1; have := d1 hu0; have := i6 hu2
          omega
      generalize nodeN x p1.1 s3 = p6 at *
      have l6 : R6.length = p6.2.rows.length := by rw [← e6, stM_len]
      have t6 := hmd.lt
      repeat (first | exact endA | refine wkP ?_ | refine opB (fun b => ?_) | refine opA (fun a' c' hc1 hc2 => ?_) | (apply GJ.and; exact rfl; intro hg) | (apply GJ.or; exact rfl; intro hg))
      refine nedge_st (x := freeE p1.1) (by rw [e6]; exact hmd.ok) (by omega) (by rw [e6]; omega) (fun R7 h7 => ?_)
      rw [e6] at h7
      repeat (first | exact endA | refine wkP ?_ | refine opB (fun b => ?_) | refine opA (fun a' c' hc1 hc2 => ?_) | (apply GJ.and; exact rfl; intro hg) | (apply GJ.or; exact rfl; intro hg))
      exact Wk.perm (mk_in _ _ _ _ _ _ _ _).symm (Wk.own _ (Sup.drop _ (Sup.all _)) (Wk.id (hk a6 c6 R7 (congrArg StD.rows h7))))
    · rw [if_neg hmx] at hk
      obtain ⟨m, hm⟩ : ∃ m : Nat, mx - mn = (m : Int) := ⟨(mx - mn).toNat, by omega⟩
      rw [hm, Int.toNat_natCast] at hk
      repeat (first | exact endA | refine wkP ?_ | refine opB (fun b => ?_) | refine opA (fun a' c' hc1 hc2 => ?_) | (apply GJ.and; exact rfl; intro hg) | (apply GJ.or; exact rfl; intro hg))
      rw [hm]
      refine LoopOk.at (ι := Nat × Nat × List RowM × Bool × Option Addr × Nat) Keep.auto (fun (j, fj, R3, u3, a3, c3) => [(60, .int .i64 (j : Int)), (2, .int .i64 (fj : Int))]) (fun (j, fj, R3, u3, a3, c3) => mkC q a3 c3 e u3 R3 (.blk bN 26 (nodeV 5 z ad 1 cp mn mx) :: r)) (fun (j, fj, R3, u3, a3, c3) => j ≤ m ∧ maxN (nodeN x) p0.1 m fi p0.2 = maxN (nodeN x) p0.1 (m - j) fj (stM R3 u3) ∧ StOk (stM R3 u3) ∧ fj < R3.length ∧ p0.2.rows.length ≤ R3.length ∧ budN (stM R3 u3) ≤ budN (stM R false) + 4 * sizeD x + 4 ∧ (u3 = false → budN (stM R3 u3) ≤ budN (stM R false))) (fun (j, fj, R3, u3, a3, c3) => m - j) (0, fi, R0, p0.2.full, a0, c0) ?_ Sub.auto Sup.auto ?_
      · exact ⟨Nat.zero_le _, by rw [h0]; rfl, by rw [h0]; exact o0, by omega, by omega, by rw [h0]; omega, fun hu => by
          rw [h0]
          have hu2 : u2 = false := by cases hh : u2 with
            | false => rfl
            | true => have := k0 hh; rw [this] at hu; cases hu
          have := i6 hu2; omega⟩
      rintro ⟨j, fj, R3, u3, a3, c3⟩ ⟨j1, j2, j3, j4, j5, j6, j7⟩
      dsimp only [List.cons_append, List.nil_append] at j1 j2 j3 j4 j5 j6 j7 ⊢
      have hR3 := stM_len R3 u3
      by_cases hj : j < m
      · rw [show m - j = (m - (j + 1)) + 1 by omega] at j2
        cases u3 with
        | true =>
          rw [rep_maxF _ _ _ _ _ rfl] at j2
          rw [j2] at hk
          repeat (first | exact endA | refine wkP ?_ | refine opB (fun b => ?_) | refine opA (fun a' c' hc1 hc2 => ?_) | (apply GJ.and; exact rfl; intro hg) | (apply GJ.or; exact rfl; intro hg))
          exact Wk.perm (mk_in _ _ _ _ _ _ _ _).symm (Wk.own _ (Sup.drop _ (Sup.all _)) (Wk.id (hk a3 c3 R3 rfl)))
        | false =>
          rw [rep_max _ _ _ _ _ rfl] at j2
          have j7 := j7 rfl
          have hone := MadeF.one hM (to := p0.1) (f0 := fj) j3 (by omega) (by omega)
          have hbone := bud_made hone
          have hoo := hone.ok
          have hog := hone.grow
          have hot := hone.lt
          unfold oneN at j2 hbone hoo hog hot
          have q1 : StOk (edgeN fj (freeE p0.1) (stM R3 false)) := j3.edge (show p0.1 < (stM R3 false).rows.length by omega)
          have q2 := edge_len fj (freeE p0.1) (stM R3 false)
          have q3 := bud_edge fj (freeE p0.1) (stM R3 false)
          repeat (first | exact endA | refine wkP ?_ | refine opB (fun b => ?_) | refine opA (fun a' c' hc1 hc2 => ?_) | (apply GJ.and; exact rfl; intro hg) | (apply GJ.or; exact rfl; intro hg))
          refine nedge_st (x := freeE p0.1) j3 (by omega) (by omega) (fun R4 h4 => ?_)
          generalize edgeN fj (freeE p0.1) (stM R3 false) = s1 at *
          have l4 : R4.length = s1.rows.length := by rw [← h4, stM_len]
          repeat (first | exact endA | refine wkP ?_ | refine opB (fun b => ?_) | refine opA (fun a' c' hc1 hc2 => ?_) | (apply GJ.and; exact rfl; intro hg) | (apply GJ.or; exact rfl; intro hg))
          refine nstate_st (by rw [h4]; exact q1) (fun a5 c5 R5 h5 => ?_)
          rw [h4] at h5
          rw [h4]
          have m1 := made_state q1
          have t1 := m1.lt
          have b1 := (bud_state _ q1).1
          have b2 := (bud_state _ q1).2
          have g1 := m1.grow
          have o1 := m1.ok
          generalize stateN s1 = p1 at *
          have l5 : R5.length = p1.2.rows.length := by rw [← h5, stM_len]
          repeat (first | exact endA | refine wkP ?_ | refine opB (fun b => ?_) | refine opA (fun a' c' hc1 hc2 => ?_) | (apply GJ.and; exact rfl; intro hg) | (apply GJ.or; exact rfl; intro hg))
          refine nedge_st (x := freeE p1.1) (by rw [h5]; exact o1) (by omega) (by rw [h5]; omega) (fun R6 h6 => ?_)
          rw [h5] at h6
          have o2 : StOk (edgeN fj (freeE p1.1) p1.2) := o1.edge t1
          have e2 := edge_len fj (freeE p1.1) p1.2
          have b3 := bud_edge fj (freeE p1.1) p1.2
          have u4 := edge_full fj (freeE p1.1) p1.2
          generalize edgeN fj (freeE p1.1) p1.2 = s2 at *
          have l6 : R6.length = s2.rows.length := by rw [← h6, stM_len]
          repeat (first | exact endA | refine wkP ?_ | refine opB (fun b => ?_) | refine opA (fun a' c' hc1 hc2 => ?_) | (apply GJ.and; exact rfl; intro hg) | (apply GJ.or; exact rfl; intro hg))
          refine OpOk.loadRow rfl rfl (LdN.at (k := 0) hrs hvk0) rfl ?_
          repeat (first | exact endA | refine wkP ?_ | refine opB (fun b => ?_) | refine opA (fun a' c' hc1 hc2 => ?_) | (apply GJ.and; exact rfl; intro hg) | (apply GJ.or; exact rfl; intro hg))
          refine ih.run hvv hw (by rw [h6]; exact o2) (by omega) (by
            rw [h6]
            cases hu : p1.2.full with
            | true => exact .inl rfl
            | false => have := b2 hu; exact .inr (by omega)) (fun a7 c7 R7 h7 => ?_)
          rw [h6] at h7
          have e7 := stM_eq h7
          rw [h6]
          generalize nodeN x p1.1 s2 = p7 at *
          have l7 : R7.length = p7.2.rows.length := by rw [← e7, stM_len]
          repeat (first | exact endA | refine wkP ?_ | refine opB (fun b => ?_) | refine opA (fun a' c' hc1 hc2 => ?_) | (apply GJ.and; exact rfl; intro hg) | (apply GJ.or; exact rfl; intro hg))
          refine Wk.id ⟨(j + 1, p7.1, R7, p7.2.full, a7, c7), ⟨rfl, ?_⟩, ?_, Sub.auto, Sup.auto⟩
          all_goals try dsimp only
          · exact ⟨by omega, by rw [e7]; exact j2, by rw [e7]; exact hoo, by omega, by omega, by rw [e7]; omega, fun hu => by rw [e7]; have := hbone.2 hu; omega⟩
          · omega
      · obtain rfl : j = m := by omega
        rw [Nat.sub_self, maxN] at j2
        rw [j2] at hk
        dsimp only at hk
        repeat (first | exact endA | refine wkP ?_ | refine opB (fun b => ?_) | refine opA (fun a' c' hc1 hc2 => ?_) | (apply GJ.and; exact rfl; intro hg) | (apply GJ.or; exact rfl; intro hg))
        refine nedge_st (x := freeE p0.1) j3 (by omega) (by omega) (fun R4 h4 => ?_)
        repeat (first | exact endA | refine wkP ?_ | refine opB (fun b => ?_) | refine opA (fun a' c' hc1 hc2 => ?_) | (apply GJ.and; exact rfl; intro hg) | (apply GJ.or; exact rfl; intro hg))
        exact Wk.perm (mk_in _ _ _ _ _ _ _ _).symm (Wk.own _ (Sup.drop _ (Sup.all _)) (Wk.id (hk a3 c3 R4 (congrArg StD.rows h4))))
set_option maxHeartbeats 8000000 in
theorem nodeC : ∀ n, NodeC n := RgD.ind fun k z l mn mx ih => ⟨fun {ro r K q c f a e full R v} hv hw ho hf hb hk => by
  obtain ⟨hform, hkw⟩ := wrongD_parts hw
  have hF := form_cases hform
  rw [RgOk] at hv
  obtain ⟨ad, cp, cs, rfl, hs, hrs, hks⟩ := hv
  have hle := hrs.le
  have hmx := hrs.max
  unfold maxLen at hmx
  have hRl := stM_len R full
  rw [nodeN] at hk
  dsimp only at hk
  cases full with
  | true =>
    rw [if_pos (show (stM R true).full = true from rfl)] at hk
    refine CallOk.intro (args := [_, _, _]) (rs := [_]) T_ok Tryz.func45 Tryz.call45 rfl rfl (by kernel_rfl) rfl rfl ?_
    repeat (first | exact endA | refine wkP ?_ | refine opB (fun b => ?_) | refine opA (fun a' c' hc1 hc2 => ?_) | (apply GJ.and; exact rfl; intro hg) | (apply GJ.or; exact rfl; intro hg))
    exact Wk.outS Sup.auto (.refl _) (hk a c R rfl)
  | false =>
    rw [if_neg (show ¬ (stM R false).full = true from (by intro h; cases h))] at hk
    have hb : budN (stM R false) + 4 * (sizeK l + 1) ≤ 900000 := by
      rcases hb with hb | hb
      · cases hb
      · rw [sizeD] at hb; exact hb
    cases hF with
    | none s a1 b1 =>
      rw [if_neg (by decide), if_neg (by decide), if_neg (by decide), if_neg (by decide)] at hk
      refine CallOk.intro (args := [_, _, _]) (rs := [_]) T_ok Tryz.func45 Tryz.call45 rfl rfl (by kernel_rfl) rfl rfl ?_
      repeat (first | exact endA | refine wkP ?_ | refine opB (fun b => ?_) | refine opA (fun a' c' hc1 hc2 => ?_) | (apply GJ.and; exact rfl; intro hg) | (apply GJ.or; exact rfl; intro hg))
      exact Wk.outS Sup.auto (.refl _) (hk a c R rfl)
    | one s a1 b1 h =>
      rw [if_pos rfl] at hk
      refine CallOk.intro (args := [_, _, _]) (rs := [_]) T_ok Tryz.func45 Tryz.call45 rfl rfl (by kernel_rfl) rfl rfl ?_
      repeat (first | exact endA | refine wkP ?_ | refine opB (fun b => ?_) | refine opA (fun a' c' hc1 hc2 => ?_) | (apply GJ.and; exact rfl; intro hg) | (apply GJ.or; exact rfl; intro hg))
      refine CallOk.perm (mk_in _ _ _ _ _ _ _ _) ?_
      refine nstate_st ho (fun a2 c2 R2 h2 => ?_)
      have m1 := made_state ho
      have b1 := (bud_state _ ho).1
      generalize stateN (stM R false) = p at *
      have o2 : StOk (stM R2 p.2.full) := by rw [h2]; exact m1.ok
      have l2 : R2.length = p.2.rows.length := by rw [← h2, stM_len]
      have g2 := m1.grow
      repeat (first | exact endA | refine wkP ?_ | refine opB (fun b => ?_) | refine opA (fun a' c' hc1 hc2 => ?_) | (apply GJ.and; exact rfl; intro hg) | (apply GJ.or; exact rfl; intro hg))
      refine nedge_st (x := setE p.1 z) o2 (by omega) (by rw [h2]; omega) (fun R3 h3 => ?_)
      repeat (first | exact endA | refine wkP ?_ | refine opB (fun b => ?_) | refine opA (fun a' c' hc1 hc2 => ?_) | (apply GJ.and; exact rfl; intro hg) | (apply GJ.or; exact rfl; intro hg))
      rw [h2] at h3
      exact Wk.perm (mk_in _ _ _ _ _ _ _ _).symm (Wk.own _ (Sup.drop _ (Sup.all _)) (Wk.id (hk a2 c2 R3 (congrArg StD.rows h3))))
    | cat s x y l a1 b1 =>
      rw [if_neg (by decide), if_pos rfl] at hk
      generalize x :: y :: l = l at *
      refine CallOk.intro (args := [_, _, _]) (rs := [_]) T_ok Tryz.func45 Tryz.call45 rfl rfl (by kernel_rfl) rfl rfl ?_
      repeat (first | exact endA | refine wkP ?_ | refine opB (fun b => ?_) | refine opA (fun a' c' hc1 hc2 => ?_) | (apply GJ.and; exact rfl; intro hg) | (apply GJ.or; exact rfl; intro hg))
      obtain ⟨bN, hbN⟩ : ∃ z : Nat, z = b := ⟨_, rfl⟩
      subst hbN
      refine LoopOk.at (ι := Nat × Nat × List RowM × Bool × Option Addr × Nat) Keep.auto (fun (i, fi, R2, u2, a2, c2) => [(37, .int .i64 (i : Int)), (2, .int .i64 (fi : Int))]) (fun (i, fi, R2, u2, a2, c2) => .blk bN 26 (nodeV 3 z ad l.length cp mn mx) :: mkC q a2 c2 e u2 R2 r) (fun (i, fi, R2, u2, a2, c2) => i ≤ l.length ∧ catN l f (stM R false) = catN (l.drop i) fi (stM R2 u2) ∧ StOk (stM R2 u2) ∧ fi < R2.length ∧ budN (stM R2 u2) + 4 * sizeK (l.drop i) ≤ 900000) (fun (i, fi, R2, u2, a2, c2) => l.length - i) (0, f, R, false, a, c) ?_ Sub.auto Sup.auto ?_
      · exact ⟨Nat.zero_le _, by simp, ho, hf, by rw [List.drop_zero]; omega⟩
      rintro ⟨i, fi, R2, u2, a2, c2⟩ ⟨i1, i2, i3, i4, i5⟩
      dsimp only [List.cons_append, List.nil_append] at i1 i2 i3 i4 i5 ⊢
      by_cases hi : i < l.length
      · obtain ⟨kd, hkd⟩ : ∃ kd, l[i]? = some kd := ⟨_, List.getElem?_eq_getElem hi⟩
        have hmk := List.mem_of_getElem? hkd
        have hvv := hks.get hkd
        obtain ⟨ak, ck, hvk⟩ := hvv.cells
        rw [hvk] at hvv
        rw [dropN_cons hkd, cat_cons] at i2
        rw [dropN_cons hkd, sizeK] at i5
        have hwk := wrongK_all hkw kd hmk
        have hmd := (made_node kd hwk fi (stM R2 u2) i3 (by rw [stM_len]; exact i4)).1
        have hbd := (bud_made hmd).1
        repeat (first | exact endA | refine wkP ?_ | refine opB (fun b => ?_) | refine opA (fun a' c' hc1 hc2 => ?_) | (apply GJ.and; exact rfl; intro hg) | (apply GJ.or; exact rfl; intro hg))
        rw [Int.toNat_natCast]
        refine OpOk.loadRow rfl rfl (LdN.at hrs hvk) rfl ?_
        repeat (first | exact endA | refine wkP ?_ | refine opB (fun b => ?_) | refine opA (fun a' c' hc1 hc2 => ?_) | (apply GJ.and; exact rfl; intro hg) | (apply GJ.or; exact rfl; intro hg))
        refine CallOk.perm (mk_in2 _ _ _ _ _ _ _ _ _) ?_
        refine (ih kd hmk).run hvv hwk i3 i4 (.inr (by omega)) (fun a3 c3 R3 h3 => ?_)
        have e3 := stM_eq h3
        generalize nodeN kd fi (stM R2 u2) = p at *
        have hlt := hmd.lt
        have l3 : R3.length = p.2.rows.length := by rw [← e3, stM_len]
        repeat (first | exact endA | refine wkP ?_ | refine opB (fun b => ?_) | refine opA (fun a' c' hc1 hc2 => ?_) | (apply GJ.and; exact rfl; intro hg) | (apply GJ.or; exact rfl; intro hg))
        refine Wk.perm (mk_in2 _ _ _ _ _ _ _ _ _).symm ?_
        refine Wk.id ⟨(i + 1, p.1, R3, p.2.full, a3, c3), ⟨rfl, ?_⟩, ?_, Sub.auto, Sup.auto⟩
        all_goals try dsimp only
        · exact ⟨by omega, by rw [e3]; exact i2, by rw [e3]; exact hmd.ok, by omega, by rw [e3]; omega⟩
        · omega
      · obtain rfl : i = l.length := by omega
        rw [List.drop_length, catN] at i2
        rw [i2] at hk
        repeat (first | exact endA | refine wkP ?_ | refine opB (fun b => ?_) | refine opA (fun a' c' hc1 hc2 => ?_) | (apply GJ.and; exact rfl; intro hg) | (apply GJ.or; exact rfl; intro hg))
        exact Wk.own _ (Sup.drop _ (Sup.all _)) (Wk.id (hk a2 c2 R2 rfl))
    | alt s x y l a1 b1 =>
      rw [if_neg (by decide), if_neg (by decide), if_pos rfl] at hk
      generalize x :: y :: l = l at *
      refine CallOk.intro (args := [_, _, _]) (rs := [_]) T_ok Tryz.func45 Tryz.call45 rfl rfl (by kernel_rfl) rfl rfl ?_
      repeat (first | exact endA | refine wkP ?_ | refine opB (fun b => ?_) | refine opA (fun a' c' hc1 hc2 => ?_) | (apply GJ.and; exact rfl; intro hg) | (apply GJ.or; exact rfl; intro hg))
      obtain ⟨bN, hbN⟩ : ∃ z : Nat, z = b := ⟨_, rfl⟩
      subst hbN
      refine CallOk.perm (mk_in _ _ _ _ _ _ _ _) ?_
      refine nstate_st ho (fun a0 c0 R0 h0 => ?_)
      have m0 := made_state ho
      have d0 := (bud_state _ ho).1
      have g0 := m0.grow
      have t0 := m0.lt
      have o0 := m0.ok
      generalize stateN (stM R false) = p0 at *
      have l0 : R0.length = p0.2.rows.length := by rw [← h0, stM_len]
      repeat (first | exact endA | refine wkP ?_ | refine opB (fun b => ?_) | refine opA (fun a' c' hc1 hc2 => ?_) | (apply GJ.and; exact rfl; intro hg) | (apply GJ.or; exact rfl; intro hg))
      refine LoopOk.at (ι := Nat × List RowM × Bool × Option Addr × Nat) Keep.auto (fun (i, R2, u2, a2, c2) => [(54, .int .i64 (i : Int))]) (fun (i, R2, u2, a2, c2) => mkC q a2 c2 e u2 R2 (.blk bN 26 (nodeV 4 z ad l.length cp mn mx) :: r)) (fun (i, R2, u2, a2, c2) => i ≤ l.length ∧ altN l f p0.1 p0.2 = altN (l.drop i) f p0.1 (stM R2 u2) ∧ StOk (stM R2 u2) ∧ p0.2.rows.length ≤ R2.length ∧ budN (stM R2 u2) + 4 * sizeK (l.drop i) ≤ 900000) (fun (i, R2, u2, a2, c2) => l.length - i) (0, R0, p0.2.full, a0, c0) ?_ Sub.auto Sup.auto ?_
      · exact ⟨Nat.zero_le _, by rw [h0]; simp, by rw [h0]; exact o0, by omega, by rw [List.drop_zero, h0]; omega⟩
      rintro ⟨i, R2, u2, a2, c2⟩ ⟨i1, i2, i3, i4, i5⟩
      dsimp only [List.cons_append, List.nil_append] at i1 i2 i3 i4 i5 ⊢
      have hR2 := stM_len R2 u2
      by_cases hi : i < l.length
      · obtain ⟨kd, hkd⟩ : ∃ kd, l[i]? = some kd := ⟨_, List.getElem?_eq_getElem hi⟩
        have hmk := List.mem_of_getElem? hkd
        have hvv := hks.get hkd
        obtain ⟨ak, ck, hvk⟩ := hvv.cells
        rw [hvk] at hvv
        rw [dropN_cons hkd, alt_cons] at i2
        rw [dropN_cons hkd, sizeK] at i5
        have hwk := wrongK_all hkw kd hmk
        have hsz := sizeD_pos kd
        have hone := made_alt [kd] (fun y hy => by rw [List.mem_singleton.1 hy]; exact made_node kd hwk) f p0.1 (stM R2 u2) i3 (by omega) (by omega)
        have hbone := (bud_made hone).1
        rw [sizeK, sizeK] at hbone
        have hoo := hone.ok
        have hog := hone.grow
        rw [alt_one] at i2 hbone hoo hog
        dsimp only at hbone hoo hog
        have m1 := made_state i3
        have t1 := m1.lt
        have b1 := (bud_state _ i3).1
        have b2 := (bud_state _ i3).2
        have g1 := m1.grow
        repeat (first | exact endA | refine wkP ?_ | refine opB (fun b => ?_) | refine opA (fun a' c' hc1 hc2 => ?_) | (apply GJ.and; exact rfl; intro hg) | (apply GJ.or; exact rfl; intro hg))
        rw [Int.toNat_natCast]
        refine OpOk.loadRow rfl rfl (LdN.at hrs hvk) rfl ?_
        repeat (first | exact endA | refine wkP ?_ | refine opB (fun b => ?_) | refine opA (fun a' c' hc1 hc2 => ?_) | (apply GJ.and; exact rfl; intro hg) | (apply GJ.or; exact rfl; intro hg))
        refine CallOk.perm (mk_in _ _ _ _ _ _ _ _) ?_
        refine nstate_st i3 (fun a3 c3 R3 h3 => ?_)
        have o1 := m1.ok
        generalize stateN (stM R2 u2) = p1 at *
        have l3 : R3.length = p1.2.rows.length := by rw [← h3, stM_len]
        repeat (first | exact endA | refine wkP ?_ | refine opB (fun b => ?_) | refine opA (fun a' c' hc1 hc2 => ?_) | (apply GJ.and; exact rfl; intro hg) | (apply GJ.or; exact rfl; intro hg))
        refine nedge_st (x := freeE p1.1) (by rw [h3]; exact o1) (by omega) (by rw [h3]; omega) (fun R4 h4 => ?_)
        rw [h3] at h4
        have o2 : StOk (edgeN f (freeE p1.1) p1.2) := o1.edge t1
        have e2 := edge_len f (freeE p1.1) p1.2
        have b3 := bud_edge f (freeE p1.1) p1.2
        have u3 := edge_full f (freeE p1.1) p1.2
        generalize edgeN f (freeE p1.1) p1.2 = s2 at *
        have l4 : R4.length = s2.rows.length := by rw [← h4, stM_len]
        have hmd := (made_node kd hwk p1.1 s2 o2 (by omega)).1
        have hmb := bud_made hmd
        repeat (first | exact endA | refine wkP ?_ | refine opB (fun b => ?_) | refine opA (fun a' c' hc1 hc2 => ?_) | (apply GJ.and; exact rfl; intro hg) | (apply GJ.or; exact rfl; intro hg))
        refine (ih kd hmk).run hvv hwk (by rw [h4]; exact o2) (by omega) (by
          rw [h4]
          cases hu : p1.2.full with
          | true => exact .inl rfl
          | false => have := b2 hu; exact .inr (by omega)) (fun a5 c5 R5 h5 => ?_)
        rw [h4] at h5
        have e5 := stM_eq h5
        rw [h4]
        generalize nodeN kd p1.1 s2 = p5 at *
        have l5 : R5.length = p5.2.rows.length := by rw [← e5, stM_len]
        have g5 := hmd.grow
        have t5 := hmd.lt
        repeat (first | exact endA | refine wkP ?_ | refine opB (fun b => ?_) | refine opA (fun a' c' hc1 hc2 => ?_) | (apply GJ.and; exact rfl; intro hg) | (apply GJ.or; exact rfl; intro hg))
        refine nedge_st (x := freeE p0.1) (by rw [e5]; exact hmd.ok) (by omega) (by rw [e5]; omega) (fun R6 h6 => ?_)
        rw [e5] at h6
        have e6 := edge_len p5.1 (freeE p0.1) p5.2
        repeat (first | exact endA | refine wkP ?_ | refine opB (fun b => ?_) | refine opA (fun a' c' hc1 hc2 => ?_) | (apply GJ.and; exact rfl; intro hg) | (apply GJ.or; exact rfl; intro hg))
        refine Wk.perm (mk_in _ _ _ _ _ _ _ _).symm ?_
        have l6 : R6.length = R5.length := by have := congrArg (fun st : StD => st.rows.length) h6; rw [stM_len, e6] at this; omega
        refine Wk.id ⟨(i + 1, R6, p5.2.full, a5, c5), ⟨rfl, ?_⟩, ?_, Sub.auto, Sup.auto⟩
        all_goals try dsimp only
        · exact ⟨by omega, by rw [h6]; exact i2, by rw [h6]; exact hoo, by omega, by rw [h6]; omega⟩
        · omega
      · obtain rfl : i = l.length := by omega
        rw [List.drop_length, altN] at i2
        rw [i2] at hk
        repeat (first | exact endA | refine wkP ?_ | refine opB (fun b => ?_) | refine opA (fun a' c' hc1 hc2 => ?_) | (apply GJ.and; exact rfl; intro hg) | (apply GJ.or; exact rfl; intro hg))
        exact Wk.perm (mk_in _ _ _ _ _ _ _ _).symm (Wk.own _ (Sup.drop _ (Sup.all _)) (Wk.id (hk a2 c2 R2 rfl)))
    | rep s x a1 b1 h =>
      rw [if_neg (by decide), if_neg (by decide), if_neg (by decide), if_pos rfl] at hk
      have hkid : kidN [x] = nodeN x := by rw [kidN]
      rw [hkid] at hk
      have hk1 := RgsOk.single hks
      have hsk : sizeK [x] = sizeD x := by simp [sizeK]
      have hb2 : budN (stM R false) + 4 * sizeD x + 4 ≤ 900000 := by
        rcases hb with h | h
        · cases h
        · rw [sizeD, hsk] at h; omega
      refine CallOk.intro (args := [_, _, _]) (rs := [_]) T_ok Tryz.func45 Tryz.call45 rfl rfl (by kernel_rfl) rfl rfl ?_
      repeat (first | exact endA | refine wkP ?_ | refine opB (fun b => ?_) | refine opA (fun a' c' hc1 hc2 => ?_) | (apply GJ.and; exact rfl; intro hg) | (apply GJ.or; exact rfl; intro hg))
      refine CallOk.perm (mk_in _ _ _ _ _ _ _ _) ?_
      refine nrepeat_ok (ih x (List.mem_singleton.2 rfl)) hrs hk1 (wrongK_all (l := [x]) hkw x (List.mem_singleton.2 rfl)) h ho hf hb2 (fun a2 c2 R2 h2 => ?_)
      repeat (first | exact endA | refine wkP ?_ | refine opB (fun b => ?_) | refine opA (fun a' c' hc1 hc2 => ?_) | (apply GJ.and; exact rfl; intro hg) | (apply GJ.or; exact rfl; intro hg))
      exact Wk.perm (mk_in _ _ _ _ _ _ _ _).symm (Wk.own _ (Sup.drop _ (Sup.all _)) (Wk.id (hk a2 c2 R2 h2)))⟩
end
end Go.Proofs.YtinbmhbfcoiefaaGreatDoor
end
section
/- Contracts of regex: alt, Parse. -/
namespace Go.Proofs.YtinbmhbfcoiefaaGreatDoor
open Go Go.E
set_option linter.unusedVariables false
set_option linter.unusedSimpArgs false
set_option maxRecDepth 10000
theorem alt_none {t : List UInt8} {alt : RS → RgD × RS} {k : Nat} {l : List RgD} {s : RS} (h : ¬ peekD t s = 124) : altL t alt k l s = (l, s) := by
  cases k with
  | zero => rfl
  | succ k => rw [altL, if_neg h]
theorem cat_more {t : List UInt8} {d : Nat} {s : RS} (h : (catD t (altD t d) s).2.e = 0) : s.p ≤ (catD t (altD t d) s).2.p := by
  obtain ⟨l, ⟨r1, _⟩, _⟩ := cat_sound (t := t) (alt := altD t d) ⟨fun h => alt_sound h, fun h => alt_keep h⟩ h
  rw [r1]; show s.p ≤ s.p + l.length; omega
set_option maxHeartbeats 8000000 in
theorem altC {t : List UInt8} (hl : t.length ≤ 10000) : ∀ d : Nat, d ≤ 33 → AltC t d := by
  intro d
  induction d with
  | zero =>
    intro _
    unfold AltC
    intro ro own g q s K hb hi h0 hn hk
    obtain ⟨r, p1, p2⟩ := hb.split
    refine CallOk.perm p1 ?_
    refine CallOk.intro (args := [_, _]) (rs := [_]) T_ok Tryz.func40 Tryz.call40 rfl rfl (by kernel_rfl) rfl rfl ?_
    repeat (first | exact endA | refine wkP ?_ | refine opB (fun b => ?_) | refine opA (fun a' c' hc1 hc2 => ?_) | (apply GJ.and; exact rfl; intro hg) | (apply GJ.or; exact rfl; intro hg))
    refine rwrong_ok (t := t) (s := s) 6 s.p rfl rfl ?_
    repeat (first | exact endA | refine wkP ?_ | refine opB (fun b => ?_) | refine opA (fun a' c' hc1 hc2 => ?_) | (apply GJ.and; exact rfl; intro hg) | (apply GJ.or; exact rfl; intro hg))
    exact Wk.outS Sup.auto (p2 _) (hk ro _ (.refl _) (RgOk.leaf zeroS_in))
  | succ d ih =>
    intro hd
    have ha : AltC t d := ih (by omega)
    unfold AltC
    intro ro own g q s K hb hi h0 hn hk
    obtain ⟨r, p1, p2⟩ := hb.split
    refine CallOk.perm p1 ?_
    have hp := hi.p0 h0
    rw [altD] at hk
    obtain ⟨R, hR⟩ : ∃ R, R = altL t (altD t d) (t.length + 1) [(catD t (altD t d) s).1] (catD t (altD t d) s).2 := ⟨_, rfl⟩
    rw [← hR] at hk
    have hic : Inv t (catD t (altD t d) s).2 := hi.cat (fun h _ => Inv.alt h)
    have hnc : NB (513 + 2 * d + 1) (catD t (altD t d) s).2 := NB.cat (t := t) (by omega) (fun h0 hn => NB.alt h0 hn) ⟨fun _ => hn, by omega⟩
    have hmc := cat_more (t := t) (d := d) (s := s)
    have hx : 33 - ((d + 1 : Nat) : Int) = 32 - (d : Int) := by omega
    rw [hx]
    generalize hX : 32 - (d : Int) = X
    have hX : X = 32 - (d : Int) := hX.symm
    refine CallOk.intro (args := [_, _]) (rs := [_]) T_ok Tryz.func40 Tryz.call40 rfl rfl (by kernel_rfl) rfl rfl ?_
    repeat (first | exact endA | refine wkP ?_ | refine opB (fun b => ?_) | refine opA (fun a' c' hc1 hc2 => ?_) | (apply GJ.and; exact rfl; intro hg) | (apply GJ.or; exact rfl; intro hg))
    obtain ⟨b4, hb4⟩ : ∃ z : Nat, z = b := ⟨_, rfl⟩
    subst hb4
    refine cat_ok (t := t) (s := s) ha hX (by omega) hi h0 hn hl (fun ro1 v hl1 hv => ?_)
    generalize (catD t (altD t d) s).1 = n0 at hR hv
    generalize (catD t (altD t d) s).2 = s0 at hR hic hnc hmc ⊢
    obtain ⟨a1, c1, hvc⟩ := hv.cells
    subst hvc
    repeat (first | exact endA | refine wkP ?_ | refine opB (fun b => ?_) | refine opA (fun a' c' hc1 hc2 => ?_) | (apply GJ.and; exact rfl; intro hg) | (apply GJ.or; exact rfl; intro hg))
    refine LoopOk.auto (ι := Nat × List RgD × List Value × RS × Option Addr × Nat) Keep.auto (fun (k, l, cs, s1, ad, cp) => [(5, .slice ad l.length cp)]) (fun (k, l, cs, s1, ad, cp) => .sl ad l.length cp 26 8 cs :: .blk b4 26 (nodeV 0 zeroS none 0 0 0 0) :: .blk q 105 (rsV t s1) :: r) (fun (k, l, cs, s1, ad, cp) ro2 => RgsOk ro2 l cs ∧ altL t (altD t d) k l s1 = R ∧ (s1.e = 0 → t.length + 1 ≤ k + s1.p ∧ l.length ≤ s1.p + 1) ∧ (1 ≤ l.length ∧ l.length ≤ t.length + 2) ∧ Inv t s1 ∧ NB (513 + 2 * d + 1) s1 ∧ l.length ≤ cp ∧ cp ≤ maxLen) (fun (k, l, cs, s1, ad, cp) => k) (t.length + 1, [n0], nodeV n0.kind n0.set a1 n0.kids.length c1 n0.min n0.max, s0, some ⟨b, 0, none⟩, 1) ?_ Sub.auto Sup.auto ?_
    · refine ⟨?_, hR.symm, fun h => ⟨by have := hmc h; omega, by simp⟩, by simp, hic, hnc, by simp, by decide⟩
      rw [RgsOk]; exact ⟨_, [], by simp, hv, by rw [RgsOk]⟩
    rintro ⟨k, l, cs, s1, ad, cp⟩ ro2 hl2 ⟨i1, i2, i3, i4, i5, i6, i7, i8⟩
    dsimp only [List.cons_append, List.nil_append] at i1 i2 i3 i4 i5 i6 i7 i8 ⊢
    have hp1 := i5.p
    have hn1 := i6.n
    have hL : cs.length = l.length * 8 := i1.len
    repeat (first | exact endA | refine wkP ?_ | refine opB (fun b => ?_) | refine opA (fun a' c' hc1 hc2 => ?_) | (apply GJ.and; exact rfl; intro hg) | (apply GJ.or; exact rfl; intro hg))
    refine eat_ok (t := t) (s := s1) 124 rfl (by decide) (by omega) ?_
    by_cases h124 : ¬ peekD t s1 = 124
    · rw [alt_none h124] at i2
      rw [← i2] at hk
      rw [decide_eq_false h124, eatS, if_neg h124]
      repeat (first | exact endA | refine wkP ?_ | refine opB (fun b => ?_) | refine opA (fun a' c' hc1 hc2 => ?_) | (apply GJ.and; exact rfl; intro hg) | (apply GJ.or; exact rfl; intro hg))
      rcases l with _ | ⟨x1, _ | ⟨y1, l1⟩⟩
      · exact absurd i4.1 (by decide)
      · rw [show ([x1] : List RgD).length = 1 from rfl] at i4 i7 hL ⊢
        have hv := i1.single
        obtain ⟨a1, c1, hvc⟩ := hv.cells
        subst hvc
        repeat (first | exact endA | refine wkP ?_ | refine opB (fun b => ?_) | refine opA (fun a' c' hc1 hc2 => ?_) | (apply GJ.and; exact rfl; intro hg) | (apply GJ.or; exact rfl; intro hg))
        refine OpOk.loadRow rfl rfl (LdN.slRow (k := 0) (z := 8) (cs := nodeV x1.kind x1.set a1 x1.kids.length c1 x1.min x1.max) (vs := nodeV x1.kind x1.set a1 x1.kids.length c1 x1.min x1.max) rfl) rfl ?_
        repeat (first | exact endA | refine wkP ?_ | refine opB (fun b => ?_) | refine opA (fun a' c' hc1 hc2 => ?_) | (apply GJ.and; exact rfl; intro hg) | (apply GJ.or; exact rfl; intro hg))
        exact Wk.outS Sup.auto (p2 _) (hk ro2 _ (hl1.trans hl2) hv)
      · have hlen : 2 ≤ (x1 :: y1 :: l1).length := by simp
        have hcat : altOf (x1 :: y1 :: l1, s1) = (altD' (x1 :: y1 :: l1), nodeS s1) := rfl
        rw [hcat] at hk
        generalize x1 :: y1 :: l1 = l at hk i1 i2 i3 i4 i7 hL hlen ⊢
        refine Br.f (by omega) ?_
        repeat (first | exact endA | refine wkP ?_ | refine opB (fun b => ?_) | refine opA (fun a' c' hc1 hc2 => ?_) | (apply GJ.and; exact rfl; intro hg) | (apply GJ.or; exact rfl; intro hg))
        refine CallOk.freeze (c := .sl ad _ _ _ _ _) Take.auto (fun ro3 hl3 hc3 => ?_)
        have hw := RgOk.many (k := 4) (i1.le hl3) (Rs.last hc3)
        refine node_ok (t := t) (s := s1) (k := 4) (z := zeroS) (a := ad) (m := l.length) (c := cp) (x := 0) (y := 0) (by omega) ?_
        repeat (first | exact endA | refine wkP ?_ | refine opB (fun b => ?_) | refine opA (fun a' c' hc1 hc2 => ?_) | (apply GJ.and; exact rfl; intro hg) | (apply GJ.or; exact rfl; intro hg))
        exact Wk.outS Sup.auto (p2 _) (hk ro3 _ ((hl1.trans hl2).trans hl3) hw)
    · have h124 := Decidable.of_not_not h124
      have hpp := peek_pos (t := t) (s := s1) (by omega)
      obtain ⟨h3, h4⟩ := i3 hpp.1
      obtain ⟨k, rfl⟩ : ∃ j, k = j + 1 := ⟨k - 1, by omega⟩
      rw [altL, if_pos h124] at i2
      rw [decide_eq_true h124, eatS, if_pos h124]
      have hia : Inv t s1.adv := i5.adv (by omega)
      have hin : Inv t (catD t (altD t d) s1.adv).2 := hia.cat (fun h _ => Inv.alt h)
      have hnn : NB (513 + 2 * d + 1) (catD t (altD t d) s1.adv).2 := NB.cat (t := t) (s := s1.adv) (by omega) (fun h0 hn => NB.alt h0 hn) ⟨fun _ => i6.n0 hpp.1, by have := i6.n0 hpp.1; show s1.n ≤ _; omega⟩
      have hmore := cat_more (t := t) (d := d) (s := s1.adv)
      have hap : s1.adv.p = s1.p + 1 := rfl
      repeat (first | exact endA | refine wkP ?_ | refine opB (fun b => ?_) | refine opA (fun a' c' hc1 hc2 => ?_) | (apply GJ.and; exact rfl; intro hg) | (apply GJ.or; exact rfl; intro hg))
      refine cat_ok (t := t) (s := s1.adv) ha hX (by omega) hia hpp.1 (i6.n0 hpp.1) hl (fun ro3 v hl3 hv => ?_)
      generalize (catD t (altD t d) s1.adv).1 = n at i2 hv
      generalize (catD t (altD t d) s1.adv).2 = s2 at i2 hin hnn hmore ⊢
      obtain ⟨a1, c1, hvc⟩ := hv.cells
      subst hvc
      repeat (first | exact endA | refine wkP ?_ | refine opB (fun b => ?_) | refine opA (fun a' c' hc1 hc2 => ?_) | (apply GJ.and; exact rfl; intro hg) | (apply GJ.or; exact rfl; intro hg))
      rw [show l.length + 1 = (l ++ [n]).length by simp] at hc1 ⊢
      repeat (first | exact endA | refine wkP ?_ | refine opB (fun b => ?_) | refine opA (fun a' c' hc1 hc2 => ?_) | (apply GJ.and; exact rfl; intro hg) | (apply GJ.or; exact rfl; intro hg))
      refine Wk.id ⟨(k, l ++ [n], cs ++ nodeV n.kind n.set a1 n.kids.length c1 n.min n.max, s2, a', c'), ?_, ?_, Sub.auto, Sup.auto⟩
      all_goals try dsimp only
      · refine ⟨RgsOk.snoc hv (i1.le hl3), i2, fun he => ?_, by simp; omega, hin, hnn, hc1, hc2⟩
        have := hmore he
        simp; omega
      · omega
end Go.Proofs.YtinbmhbfcoiefaaGreatDoor
end
section
/- Contracts of regex: Parse. -/
namespace Go.Proofs.YtinbmhbfcoiefaaGreatDoor
open Go Go.E
set_option linter.unusedVariables false
set_option linter.unusedSimpArgs false
set_option maxRecDepth 10000
def faultV (p : Nat × Nat) : List Value := [.int .i64 (p.1 : Int), .int .i64 (p.2 : Int)]
section
variable {ro : Ro} {own r : Chs} {K : Value → Ro → Chs → Prop} {g : Chunk → Chs} {q : Nat} {t : List UInt8}
set_option maxHeartbeats 8000000 in
theorem rparse_ok (hl : t.length ≤ 1000000) (hk : ∀ ro' v, Le ro ro' → RgOk ro' (parseD t).1 v → K (.tuple #[.agg v.toArray, .agg (faultV (parseD t).2).toArray]) ro' own) :
    CallOk Tryz.prog 24 #[str t] ro own K := by
  unfold parseD at hk
  by_cases h512 : 512 < t.length
  · rw [if_pos h512] at hk
    refine CallOk.intro (args := [_]) (rs := [_, _]) T_ok Tryz.func24 Tryz.call24 rfl rfl (by kernel_rfl) rfl rfl ?_
    repeat (first | exact endA | refine wkP ?_ | refine opB (fun b => ?_) | refine opA (fun a' c' hc1 hc2 => ?_) | (apply GJ.and; exact rfl; intro hg) | (apply GJ.or; exact rfl; intro hg))
    exact Wk.outS Sup.auto (.refl _) (hk ro _ (.refl _) (RgOk.leaf zeroS_in))
  · rw [if_neg h512] at hk
    have hi : Inv t ⟨0, 0, 0, 0⟩ := ⟨fun _ => Nat.zero_le _, Nat.zero_le _, Nat.zero_le _, .inl rfl⟩
    refine CallOk.intro (args := [_]) (rs := [_, _]) T_ok Tryz.func24 Tryz.call24 rfl rfl (by kernel_rfl) rfl rfl ?_
    repeat (first | exact endA | refine wkP ?_ | refine opB (fun b => ?_) | refine opA (fun a' c' hc1 hc2 => ?_) | (apply GJ.and; exact rfl; intro hg) | (apply GJ.or; exact rfl; intro hg))
    rename_i b2 b3
    obtain ⟨q, hq⟩ : ∃ z : Nat, z = b := ⟨_, rfl⟩
    subst hq
    have e1 : (.blk q 105 (Value.agg #[str t, .int .i64 0, .int .i64 0, .int .i64 0, .int .i64 0]).cells.toList : Chunk) = .blk q 105 (rsV t ⟨0, 0, 0, 0⟩) := rfl
    rw [e1]
    refine altC (t := t) (by omega) 33 (Nat.le_refl _) (s := ⟨0, 0, 0, 0⟩) inferInstance hi rfl (by decide) (fun ro1 v hl1 hv => ?_)
    have hia : Inv t (altD t 33 ⟨0, 0, 0, 0⟩).2 := Inv.alt hi
    generalize (altD t 33 ⟨0, 0, 0, 0⟩).1 = n at hk hv
    generalize (altD t 33 ⟨0, 0, 0, 0⟩).2 = s at hk hia ⊢
    obtain ⟨a1, c1, hvc⟩ := hv.cells
    subst hvc
    repeat (first | exact endA | refine wkP ?_ | refine opB (fun b => ?_) | refine opA (fun a' c' hc1 hc2 => ?_) | (apply GJ.and; exact rfl; intro hg) | (apply GJ.or; exact rfl; intro hg))
    refine rok_ok (t := t) (s := s) ?_
    have hbad : ∀ s2 : RS, s2.e ≠ 0 → endS t s = s2 → K (.tuple #[.agg (nodeV 0 zeroS none 0 0 0 0).toArray, .agg #[.int .i64 (s2.e : Int), .int .i64 (s2.f : Int)]]) ro1 own := fun s2 h2 h3 => by
      rw [h3, if_neg h2] at hk
      exact hk ro1 _ hl1 (RgOk.leaf zeroS_in)
    by_cases he : s.e = 0
    · rw [decide_eq_true (show (s.e : Int) = 0 by omega)]
      have hp := hia.p0 he
      by_cases hlt : s.p < t.length
      · have hE : endS t s = s.wrong 5 s.p := by unfold endS; rw [if_pos ⟨he, hlt⟩]
        have hb2 := hbad _ (wrong_ne (by decide)) hE
        have hne := wrong_ne (s := s) (e := 5) (f := s.p) (by decide)
        repeat (first | exact endA | refine wkP ?_ | refine opB (fun b => ?_) | refine opA (fun a' c' hc1 hc2 => ?_) | (apply GJ.and; exact rfl; intro hg) | (apply GJ.or; exact rfl; intro hg))
        refine rwrong_ok (t := t) (s := s) 5 s.p rfl rfl ?_
        generalize s.wrong 5 s.p = s2 at hb2 hne ⊢
        repeat (first | exact endA | refine wkP ?_ | refine opB (fun b => ?_) | refine opA (fun a' c' hc1 hc2 => ?_) | (apply GJ.and; exact rfl; intro hg) | (apply GJ.or; exact rfl; intro hg))
        refine rok_ok (t := t) (s := s2) ?_
        rw [decide_eq_false (show ¬ (s2.e : Int) = 0 by omega)]
        repeat (first | exact endA | refine wkP ?_ | refine opB (fun b => ?_) | refine opA (fun a' c' hc1 hc2 => ?_) | (apply GJ.and; exact rfl; intro hg) | (apply GJ.or; exact rfl; intro hg))
        exact Wk.outS Sup.auto (.refl _) hb2
      · have hE : endS t s = s := by unfold endS; rw [if_neg (fun x => hlt x.2)]
        rw [hE, if_pos he] at hk
        repeat (first | exact endA | refine wkP ?_ | refine opB (fun b => ?_) | refine opA (fun a' c' hc1 hc2 => ?_) | (apply GJ.and; exact rfl; intro hg) | (apply GJ.or; exact rfl; intro hg))
        refine rok_ok (t := t) (s := s) ?_
        rw [decide_eq_true (show (s.e : Int) = 0 by omega)]
        repeat (first | exact endA | refine wkP ?_ | refine opB (fun b => ?_) | refine opA (fun a' c' hc1 hc2 => ?_) | (apply GJ.and; exact rfl; intro hg) | (apply GJ.or; exact rfl; intro hg))
        exact Wk.outS Sup.auto (.refl _) (hk ro1 _ hl1 hv)
    · have hE : endS t s = s := end_keep he
      have hb2 := hbad _ he hE
      rw [decide_eq_false (show ¬ (s.e : Int) = 0 by omega)]
      repeat (first | exact endA | refine wkP ?_ | refine opB (fun b => ?_) | refine opA (fun a' c' hc1 hc2 => ?_) | (apply GJ.and; exact rfl; intro hg) | (apply GJ.or; exact rfl; intro hg))
      refine rok_ok (t := t) (s := s) ?_
      rw [decide_eq_false (show ¬ (s.e : Int) = 0 by omega)]
      repeat (first | exact endA | refine wkP ?_ | refine opB (fun b => ?_) | refine opA (fun a' c' hc1 hc2 => ?_) | (apply GJ.and; exact rfl; intro hg) | (apply GJ.or; exact rfl; intro hg))
      exact Wk.outS Sup.auto (.refl _) hb2
end
end Go.Proofs.YtinbmhbfcoiefaaGreatDoor
end
section
/- Contracts of regex: Check. -/
namespace Go.Proofs.YtinbmhbfcoiefaaGreatDoor
open Go Go.E
set_option linter.unusedVariables false
set_option linter.unusedSimpArgs false
set_option maxRecDepth 10000
mutual
theorem check_left : ∀ (n : RgD) (M : Int), (checkD n M).1 = 0 → 0 ≤ (checkD n M).2 ∧ (checkD n M).2 ≤ M - 1
  | .mk k s l a b, M, h => by
    rw [checkD] at h ⊢
    split at h
    · cases h
    · rename_i h1
      rw [if_neg h1]
      split at h
      · rename_i h2; exact absurd h h2
      · rename_i h2
        rw [if_neg h2]
        split at h
        · rename_i h3; rw [if_pos h3]; dsimp only; omega
        · rename_i h3
          rw [if_neg h3]
          have := checkK_left l (M - 1) (by omega) h
          omega
theorem checkK_left : ∀ (l : List RgD) (M : Int), 0 ≤ M → (checkK l M).1 = 0 → 0 ≤ (checkK l M).2 ∧ (checkK l M).2 ≤ M
  | [], M, h0, h => by rw [checkK]; exact ⟨h0, Int.le_refl _⟩
  | x :: r, M, h0, h => by
    rw [checkK] at h ⊢
    split at h
    · rename_i h1; exact absurd h h1
    · rename_i h1
      rw [if_neg h1]
      have h2 := check_left x M (Decidable.of_not_not h1)
      have := checkK_left r (checkD x M).2 h2.1 h
      omega
end

structure ChC (n : RgD) : Prop where
  run : ∀ {ro : Ro} {r : Chs} {K : Value → Ro → Chs → Prop} {p : Nat} {v : List Value} {M d : Int}, RgOk ro n v → 0 ≤ M → M ≤ 100000 → 0 ≤ d → d + M ≤ 512 → K (.int .i64 ((checkD n M).1 : Int)) ro (.blk p 3 [.int .i64 (checkD n M).2] :: r) →
    CallOk Tryz.prog 67 #[.agg v.toArray, .int .i64 d, ptr' p] ro (.blk p 3 [.int .i64 M] :: r) K
set_option maxHeartbeats 16000000 in
theorem chC : ∀ n, ChC n := RgD.ind fun k z l x y ih => ⟨fun {ro r K p v M d} hv hM hM2 hd hdm hk => by
  rw [RgOk] at hv
  obtain ⟨ad, cp, cs, rfl, hs, hrs, hks⟩ := hv
  have hle := hrs.le
  have hmx := hrs.max
  unfold maxLen at hmx
  rw [checkD] at hk
  by_cases h0 : M - 1 < 0
  · rw [if_pos h0] at hk
    refine CallOk.intro (args := [_, _, _]) (rs := [_]) T_ok Tryz.func67 Tryz.call67 rfl rfl (by kernel_rfl) rfl rfl ?_
    repeat (first | exact endA | refine wkP ?_ | refine opB (fun b => ?_) | refine opA (fun a' c' hc1 hc2 => ?_) | (apply GJ.and; exact rfl; intro hg) | (apply GJ.or; exact rfl; intro hg))
    exact Wk.outS Sup.auto (.refl _) hk
  rw [if_neg h0] at hk
  have hformD : formD (.mk k z l x y) = (if k = 1 ∨ k = 2 then (if l ≠ [] then 5 else if k = 2 ∧ z = zeroS then 160 else 0) else if k = 3 ∨ k = 4 then (if l.length < 2 then 5 else 0)
    else if k = 5 then (if l.length ≠ 1 then 5 else if x < 0 ∨ 256 < x ∨ 256 < y ∨ (0 ≤ y ∧ y < x) then 1 else 0) else 5) := rfl
  have hbad : ∀ e : Nat, formD (.mk k z l x y) = e → e ≠ 0 → K (.int .i64 (e : Int)) ro (.blk p 3 [.int .i64 (M - 1)] :: r) := fun e h1 h2 => by
    rw [h1, if_pos h2] at hk; exact hk
  have hgood : formD (.mk k z l x y) = 0 → K (.int .i64 ((checkK l (M - 1)).1 : Int)) ro (.blk p 3 [.int .i64 (checkK l (M - 1)).2] :: r) := fun h1 => by
    rw [h1, if_neg (by decide)] at hk
    by_cases h12 : k = 1 ∨ k = 2
    · rw [if_pos h12] at hk
      have : l = [] := by
        by_cases hl : l = []
        · exact hl
        · rw [hformD, if_pos h12, if_pos hl] at h1; cases h1
      subst this
      rw [checkK]; exact hk
    · rw [if_neg h12] at hk; exact hk
  clear hk
  have hle0 : l ≠ [] ↔ 0 < l.length := List.length_pos_iff.symm
  by_cases h1 : k = 1
  · subst h1
    rw [if_pos (.inl rfl)] at hformD
    by_cases hl0 : l ≠ []
    · rw [if_pos hl0] at hformD
      have hk := hbad _ hformD (by decide)
      have := hle0.1 hl0
      refine CallOk.intro (args := [_, _, _]) (rs := [_]) T_ok Tryz.func67 Tryz.call67 rfl rfl (by kernel_rfl) rfl rfl ?_
      repeat (first | exact endA | refine wkP ?_ | refine opB (fun b => ?_) | refine opA (fun a' c' hc1 hc2 => ?_) | (apply GJ.and; exact rfl; intro hg) | (apply GJ.or; exact rfl; intro hg))
      exact Wk.outS Sup.auto (.refl _) hk
    · rw [if_neg hl0, if_neg (fun x => absurd x.1 (by decide))] at hformD
      have hk := hgood hformD
      have hl0 : ¬ 0 < l.length := fun h => hl0 (hle0.2 h)
      refine CallOk.intro (args := [_, _, _]) (rs := [_]) T_ok Tryz.func67 Tryz.call67 rfl rfl (by kernel_rfl) rfl rfl ?_
      repeat (first | exact endA | refine wkP ?_ | refine opB (fun b => ?_) | refine opA (fun a' c' hc1 hc2 => ?_) | (apply GJ.and; exact rfl; intro hg) | (apply GJ.or; exact rfl; intro hg))
      refine LoopOk.at (ι := Nat × Int) Keep.auto (fun (i, Mi) => [(75, .int .i64 (i : Int))]) (fun (i, Mi) => .blk p 3 [.int .i64 Mi] :: r) (fun (i, Mi) => i ≤ l.length ∧ checkK l (M - 1) = checkK (l.drop i) Mi) (fun (i, Mi) => l.length - i) (0, M - 1) ?_ Sub.auto Sup.auto ?_
      · exact ⟨Nat.zero_le _, by simp⟩
      rintro ⟨i, Mi⟩ ⟨i1, i4⟩
      dsimp only [List.cons_append, List.nil_append] at i1 i4 ⊢
      obtain rfl : i = l.length := by omega
      rw [List.drop_length, checkK] at i4
      rw [i4] at hk
      repeat (first | exact endA | refine wkP ?_ | refine opB (fun b => ?_) | refine opA (fun a' c' hc1 hc2 => ?_) | (apply GJ.and; exact rfl; intro hg) | (apply GJ.or; exact rfl; intro hg))
      exact Wk.outS Sup.auto (.refl _) hk
  by_cases h2 : k = 2
  · subst h2
    rw [if_pos (.inr rfl)] at hformD
    by_cases hl0 : l ≠ []
    · rw [if_pos hl0] at hformD
      have hk := hbad _ hformD (by decide)
      have := hle0.1 hl0
      refine CallOk.intro (args := [_, _, _]) (rs := [_]) T_ok Tryz.func67 Tryz.call67 rfl rfl (by kernel_rfl) rfl rfl ?_
      repeat (first | exact endA | refine wkP ?_ | refine opB (fun b => ?_) | refine opA (fun a' c' hc1 hc2 => ?_) | (apply GJ.and; exact rfl; intro hg) | (apply GJ.or; exact rfl; intro hg))
      exact Wk.outS Sup.auto (.refl _) hk
    · rw [if_neg hl0] at hformD
      have hl0' : ¬ 0 < l.length := fun h => hl0 (hle0.2 h)
      by_cases hz : z = zeroS
      · rw [if_pos ⟨rfl, hz⟩] at hformD
        have hk := hbad _ hformD (by decide)
        refine CallOk.intro (args := [_, _, _]) (rs := [_]) T_ok Tryz.func67 Tryz.call67 rfl rfl (by kernel_rfl) rfl rfl ?_
        repeat (first | exact endA | refine wkP ?_ | refine opB (fun b => ?_) | refine opA (fun a' c' hc1 hc2 => ?_) | (apply GJ.and; exact rfl; intro hg) | (apply GJ.or; exact rfl; intro hg))
        refine check_ok ?_
        rw [if_pos (show z = ⟨0, 0, 0, 0⟩ from hz)]
        repeat (first | exact endA | refine wkP ?_ | refine opB (fun b => ?_) | refine opA (fun a' c' hc1 hc2 => ?_) | (apply GJ.and; exact rfl; intro hg) | (apply GJ.or; exact rfl; intro hg))
        exact Wk.outS Sup.auto (.refl _) hk
      · rw [if_neg (fun x => hz x.2)] at hformD
        have hk := hgood hformD
        have hl0 := Decidable.of_not_not hl0
        rw [hl0, checkK] at hk
        refine CallOk.intro (args := [_, _, _]) (rs := [_]) T_ok Tryz.func67 Tryz.call67 rfl rfl (by kernel_rfl) rfl rfl ?_
        repeat (first | exact endA | refine wkP ?_ | refine opB (fun b => ?_) | refine opA (fun a' c' hc1 hc2 => ?_) | (apply GJ.and; exact rfl; intro hg) | (apply GJ.or; exact rfl; intro hg))
        refine check_ok ?_
        rw [if_neg (show ¬ z = ⟨0, 0, 0, 0⟩ from hz)]
        repeat (first | exact endA | refine wkP ?_ | refine opB (fun b => ?_) | refine opA (fun a' c' hc1 hc2 => ?_) | (apply GJ.and; exact rfl; intro hg) | (apply GJ.or; exact rfl; intro hg))
        exact Wk.outS Sup.auto (.refl _) hk
  rw [if_neg (by omega)] at hformD
  by_cases h34 : k = 3 ∨ k = 4
  · rw [if_pos h34] at hformD
    by_cases hl2 : l.length < 2
    · rw [if_pos hl2] at hformD
      have hk := hbad _ hformD (by decide)
      rcases h34 with rfl | rfl
      all_goals
        refine CallOk.intro (args := [_, _, _]) (rs := [_]) T_ok Tryz.func67 Tryz.call67 rfl rfl (by kernel_rfl) rfl rfl ?_
        repeat (first | exact endA | refine wkP ?_ | refine opB (fun b => ?_) | refine opA (fun a' c' hc1 hc2 => ?_) | (apply GJ.and; exact rfl; intro hg) | (apply GJ.or; exact rfl; intro hg))
        exact Wk.outS Sup.auto (.refl _) hk
    · rw [if_neg hl2] at hformD
      have hk := hgood hformD
      rcases h34 with rfl | rfl
      all_goals
        refine CallOk.intro (args := [_, _, _]) (rs := [_]) T_ok Tryz.func67 Tryz.call67 rfl rfl (by kernel_rfl) rfl rfl ?_
        repeat (first | exact endA | refine wkP ?_ | refine opB (fun b => ?_) | refine opA (fun a' c' hc1 hc2 => ?_) | (apply GJ.and; exact rfl; intro hg) | (apply GJ.or; exact rfl; intro hg))
        refine LoopOk.at (ι := Nat × Int) Keep.auto (fun (i, Mi) => [(75, .int .i64 (i : Int))]) (fun (i, Mi) => .blk p 3 [.int .i64 Mi] :: r) (fun (i, Mi) => i ≤ l.length ∧ 0 ≤ Mi ∧ Mi ≤ M - 1 ∧ checkK l (M - 1) = checkK (l.drop i) Mi) (fun (i, Mi) => l.length - i) (0, M - 1) ?_ Sub.auto Sup.auto ?_
        · exact ⟨Nat.zero_le _, by omega, Int.le_refl _, by simp⟩
        rintro ⟨i, Mi⟩ ⟨i1, i2, i3, i4⟩
        dsimp only [List.cons_append, List.nil_append] at i1 i2 i3 i4 ⊢
        by_cases hi : i < l.length
        · obtain ⟨kd, hkd⟩ : ∃ kd, l[i]? = some kd := ⟨_, List.getElem?_eq_getElem hi⟩
          have hvv := hks.get hkd
          obtain ⟨ak, ck, hvk⟩ := hvv.cells
          rw [hvk] at hvv
          have hdr : l.drop i = kd :: l.drop (i + 1) := by
            rw [List.drop_eq_getElem_cons hi]
            congr 1
            rw [List.getElem?_eq_getElem hi] at hkd
            exact Option.some.inj hkd
          rw [hdr, checkK] at i4
          have hleft := check_left kd Mi
          repeat (first | exact endA | refine wkP ?_ | refine opB (fun b => ?_) | refine opA (fun a' c' hc1 hc2 => ?_) | (apply GJ.and; exact rfl; intro hg) | (apply GJ.or; exact rfl; intro hg))
          rw [Int.toNat_natCast]
          refine OpOk.loadRow rfl rfl (LdN.at hrs hvk) rfl ?_
          repeat (first | exact endA | refine wkP ?_ | refine opB (fun b => ?_) | refine opA (fun a' c' hc1 hc2 => ?_) | (apply GJ.and; exact rfl; intro hg) | (apply GJ.or; exact rfl; intro hg))
          refine CallOk.sup (own0 := .blk p 3 [.int .i64 Mi] :: r) Sup.auto ?_
          refine (ih kd (List.mem_of_getElem? hkd)).run hvv i2 (by omega) (by omega) (by omega) ?_
          generalize checkD kd Mi = R at i4 hleft ⊢
          obtain ⟨R1, R2⟩ := R
          dsimp only at i4 hleft ⊢
          by_cases hz : R1 = 0
          · rw [if_neg (by omega)] at i4
            obtain ⟨h5, h6⟩ := hleft hz
            subst hz
            repeat (first | exact endA | refine wkP ?_ | refine opB (fun b => ?_) | refine opA (fun a' c' hc1 hc2 => ?_) | (apply GJ.and; exact rfl; intro hg) | (apply GJ.or; exact rfl; intro hg))
            refine Wk.id ⟨(i + 1, R2), ⟨rfl, ?_⟩, ?_, Sub.auto, Sup.auto⟩
            all_goals try dsimp only
            · exact ⟨by omega, h5, by omega, i4⟩
            · omega
          · rw [if_pos hz] at i4
            rw [i4] at hk
            repeat (first | exact endA | refine wkP ?_ | refine opB (fun b => ?_) | refine opA (fun a' c' hc1 hc2 => ?_) | (apply GJ.and; exact rfl; intro hg) | (apply GJ.or; exact rfl; intro hg))
            exact Wk.outS Sup.auto (.refl _) hk
        · obtain rfl : i = l.length := by omega
          rw [List.drop_length, checkK] at i4
          rw [i4] at hk
          repeat (first | exact endA | refine wkP ?_ | refine opB (fun b => ?_) | refine opA (fun a' c' hc1 hc2 => ?_) | (apply GJ.and; exact rfl; intro hg) | (apply GJ.or; exact rfl; intro hg))
          exact Wk.outS Sup.auto (.refl _) hk
  rw [if_neg h34] at hformD
  by_cases h5 : k = 5
  · subst h5
    rw [if_pos rfl] at hformD
    by_cases hl1 : l.length ≠ 1
    · rw [if_pos hl1] at hformD
      have hk := hbad _ hformD (by decide)
      refine CallOk.intro (args := [_, _, _]) (rs := [_]) T_ok Tryz.func67 Tryz.call67 rfl rfl (by kernel_rfl) rfl rfl ?_
      repeat (first | exact endA | refine wkP ?_ | refine opB (fun b => ?_) | refine opA (fun a' c' hc1 hc2 => ?_) | (apply GJ.and; exact rfl; intro hg) | (apply GJ.or; exact rfl; intro hg))
      exact Wk.outS Sup.auto (.refl _) hk
    · rw [if_neg hl1] at hformD
      by_cases hb : x < 0 ∨ 256 < x ∨ 256 < y ∨ (0 ≤ y ∧ y < x)
      · rw [if_pos hb] at hformD
        have hk := hbad _ hformD (by decide)
        rcases hb with hb | hb | hb | hb
        all_goals
          refine CallOk.intro (args := [_, _, _]) (rs := [_]) T_ok Tryz.func67 Tryz.call67 rfl rfl (by kernel_rfl) rfl rfl ?_
          repeat (first | exact endA | refine wkP ?_ | refine opB (fun b => ?_) | refine opA (fun a' c' hc1 hc2 => ?_) | (apply GJ.and; exact rfl; intro hg) | (apply GJ.or; exact rfl; intro hg))
          exact Wk.outS Sup.auto (.refl _) hk
      · rw [if_neg hb] at hformD
        have hk := hgood hformD
        refine CallOk.intro (args := [_, _, _]) (rs := [_]) T_ok Tryz.func67 Tryz.call67 rfl rfl (by kernel_rfl) rfl rfl ?_
        repeat (first | exact endA | refine wkP ?_ | refine opB (fun b => ?_) | refine opA (fun a' c' hc1 hc2 => ?_) | (apply GJ.and; exact rfl; intro hg) | (apply GJ.or; exact rfl; intro hg))
        refine LoopOk.at (ι := Nat × Int) Keep.auto (fun (i, Mi) => [(75, .int .i64 (i : Int))]) (fun (i, Mi) => .blk p 3 [.int .i64 Mi] :: r) (fun (i, Mi) => i ≤ l.length ∧ 0 ≤ Mi ∧ Mi ≤ M - 1 ∧ checkK l (M - 1) = checkK (l.drop i) Mi) (fun (i, Mi) => l.length - i) (0, M - 1) ?_ Sub.auto Sup.auto ?_
        · exact ⟨Nat.zero_le _, by omega, Int.le_refl _, by simp⟩
        rintro ⟨i, Mi⟩ ⟨i1, i2, i3, i4⟩
        dsimp only [List.cons_append, List.nil_append] at i1 i2 i3 i4 ⊢
        by_cases hi : i < l.length
        · obtain ⟨kd, hkd⟩ : ∃ kd, l[i]? = some kd := ⟨_, List.getElem?_eq_getElem hi⟩
          have hvv := hks.get hkd
          obtain ⟨ak, ck, hvk⟩ := hvv.cells
          rw [hvk] at hvv
          have hdr : l.drop i = kd :: l.drop (i + 1) := by
            rw [List.drop_eq_getElem_cons hi]
            congr 1
            rw [List.getElem?_eq_getElem hi] at hkd
            exact Option.some.inj hkd
          rw [hdr, checkK] at i4
          have hleft := check_left kd Mi
          repeat (first | exact endA | refine wkP ?_ | refine opB (fun b => ?_) | refine opA (fun a' c' hc1 hc2 => ?_) | (apply GJ.and; exact rfl; intro hg) | (apply GJ.or; exact rfl; intro hg))
          rw [Int.toNat_natCast]
          refine OpOk.loadRow rfl rfl (LdN.at hrs hvk) rfl ?_
          repeat (first | exact endA | refine wkP ?_ | refine opB (fun b => ?_) | refine opA (fun a' c' hc1 hc2 => ?_) | (apply GJ.and; exact rfl; intro hg) | (apply GJ.or; exact rfl; intro hg))
          refine CallOk.sup (own0 := .blk p 3 [.int .i64 Mi] :: r) Sup.auto ?_
          refine (ih kd (List.mem_of_getElem? hkd)).run hvv i2 (by omega) (by omega) (by omega) ?_
          generalize checkD kd Mi = R at i4 hleft ⊢
          obtain ⟨R1, R2⟩ := R
          dsimp only at i4 hleft ⊢
          by_cases hz : R1 = 0
          · rw [if_neg (by omega)] at i4
            obtain ⟨h5, h6⟩ := hleft hz
            subst hz
            repeat (first | exact endA | refine wkP ?_ | refine opB (fun b => ?_) | refine opA (fun a' c' hc1 hc2 => ?_) | (apply GJ.and; exact rfl; intro hg) | (apply GJ.or; exact rfl; intro hg))
            refine Wk.id ⟨(i + 1, R2), ⟨rfl, ?_⟩, ?_, Sub.auto, Sup.auto⟩
            all_goals try dsimp only
            · exact ⟨by omega, h5, by omega, i4⟩
            · omega
          · rw [if_pos hz] at i4
            rw [i4] at hk
            repeat (first | exact endA | refine wkP ?_ | refine opB (fun b => ?_) | refine opA (fun a' c' hc1 hc2 => ?_) | (apply GJ.and; exact rfl; intro hg) | (apply GJ.or; exact rfl; intro hg))
            exact Wk.outS Sup.auto (.refl _) hk
        · obtain rfl : i = l.length := by omega
          rw [List.drop_length, checkK] at i4
          rw [i4] at hk
          repeat (first | exact endA | refine wkP ?_ | refine opB (fun b => ?_) | refine opA (fun a' c' hc1 hc2 => ?_) | (apply GJ.and; exact rfl; intro hg) | (apply GJ.or; exact rfl; intro hg))
          exact Wk.outS Sup.auto (.refl _) hk
  · rw [if_neg h5] at hformD
    have hk := hbad _ hformD (by decide)
    refine CallOk.intro (args := [_, _, _]) (rs := [_]) T_ok Tryz.func67 Tryz.call67 rfl rfl (by kernel_rfl) rfl rfl ?_
    repeat (first | exact endA | refine wkP ?_ | refine opB (fun b => ?_) | refine opA (fun a' c' hc1 hc2 => ?_) | (apply GJ.and; exact rfl; intro hg) | (apply GJ.or; exact rfl; intro hg))
    exact Wk.outS Sup.auto (.refl _) hk⟩
end Go.Proofs.YtinbmhbfcoiefaaGreatDoor
end
section
/- Contracts of regex: Check (without Text). -/
namespace Go.Proofs.YtinbmhbfcoiefaaGreatDoor
open Go Go.E
set_option linter.unusedVariables false
set_option linter.unusedSimpArgs false
set_option maxRecDepth 10000
section
variable {ro : Ro} {own r : Chs} {K : Value → Ro → Chs → Prop} {g : Chunk → Chs}
theorem rcheck_ok {n : RgD} {v : List Value} (hv : RgOk ro n v) (hk : K (.int .i64 ((checkD n 512).1 : Int)) ro own) : CallOk Tryz.prog 43 #[.agg v.toArray] ro own K := by
  obtain ⟨a1, c1, hvc⟩ := hv.cells
  rw [hvc] at hv ⊢
  refine CallOk.intro (args := [_]) (rs := [_]) T_ok Tryz.func43 Tryz.call43 rfl rfl (by kernel_rfl) rfl rfl ?_
  repeat (first | exact endA | refine wkP ?_ | refine opB (fun b => ?_) | refine opA (fun a' c' hc1 hc2 => ?_) | (apply GJ.and; exact rfl; intro hg) | (apply GJ.or; exact rfl; intro hg))
  refine CallOk.sup (own0 := .blk b 3 [.int .i64 512] :: own) Sup.auto ?_
  refine (chC n).run hv (by decide) (by decide) (by decide) (by decide) ?_
  repeat (first | exact endA | refine wkP ?_ | refine opB (fun b => ?_) | refine opA (fun a' c' hc1 hc2 => ?_) | (apply GJ.and; exact rfl; intro hg) | (apply GJ.or; exact rfl; intro hg))
  exact Wk.outS Sup.auto (.refl _) hk
end
end Go.Proofs.YtinbmhbfcoiefaaGreatDoor
end
