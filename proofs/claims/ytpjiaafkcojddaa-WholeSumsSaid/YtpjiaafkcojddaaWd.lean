/- Contracts of wide: sums. -/
import Derived.Test.YtpjiaafkcojddaaT
namespace Go.Proofs.Ytpjiaafkcojddaa
open Go Go.E
set_option linter.unusedVariables false
set_option maxRecDepth 10000
section
variable {ro : Ro} {own r : Chs} {K : Value → Ro → Chs → Prop} {g : Chunk → Chs}
theorem wideAdd_ok {x y : Nat} (h : x + y < 18446744073709551616) (hk : K (.tuple #[.int .u64 ((x + y : Nat) : Int), .int .i64 0]) ro own) : CallOk Try.prog 35 #[.int .u64 x, .int .u64 y] ro own K := by
  refine CallOk.intro (args := [_, _]) (rs := [_, _]) T_ok Try.func35 Try.call35 rfl rfl (by kernel_rfl) rfl rfl ?_
  repeat (first
    | (show _ ∧ _; exact ⟨rfl, rfl, rfl⟩)
    | refine wkG ?_
    | (show OpOk _ _ _ _ _ _ _; first | refine opB (fun b => ?_) | refine opA (fun a' c' hc1 hc2 => ?_))
    | (show GJ _ _ _ _ _ _ _; first | (apply GJ.and; exact rfl; intro hg) | (apply GJ.or; exact rfl; intro hg) | refine GJ.t omAuto ?_ | refine GJ.f omAuto ?_ | refine GJ.ft omAuto ?_ | refine GJ.ff omAuto ?_))
  refine CallOk.add64 Try.func56 (by kernel_rfl) (by kernel_rfl) (by kernel_rfl) (by kernel_rfl) ?_
  rw [Nat.mod_eq_of_lt h, Nat.div_eq_of_lt h]
  repeat (first
    | (show _ ∧ _; exact ⟨rfl, rfl, rfl⟩)
    | refine wkG ?_
    | (show OpOk _ _ _ _ _ _ _; first | refine opB (fun b => ?_) | refine opA (fun a' c' hc1 hc2 => ?_))
    | (show GJ _ _ _ _ _ _ _; first | (apply GJ.and; exact rfl; intro hg) | (apply GJ.or; exact rfl; intro hg) | refine GJ.t omAuto ?_ | refine GJ.f omAuto ?_ | refine GJ.ft omAuto ?_ | refine GJ.ff omAuto ?_))
  exact Wk.id hk
theorem wideSum2_ok {x y : Nat} {b : Nat} (h : x + y < 18446744073709551616) (hk : K (.tuple #[.int .u64 ((x + y : Nat) : Int), .int .i64 0]) ro r) :
    CallOk Try.prog 38 #[.slice (some ⟨b, 0, none⟩) 2 2] ro (.sl (some ⟨b, 0, none⟩) 2 2 41 1 [.int .u64 x, .int .u64 y] :: r) K := by
  refine CallOk.intro (args := [_]) (rs := [_, _]) T_ok Try.func38 Try.call38 rfl rfl (by kernel_rfl) rfl rfl ?_
  repeat (first
    | (show _ ∧ _; exact ⟨rfl, rfl, rfl⟩)
    | refine wkG ?_
    | (show OpOk _ _ _ _ _ _ _; first | refine opB (fun b => ?_) | refine opA (fun a' c' hc1 hc2 => ?_))
    | (show GJ _ _ _ _ _ _ _; first | (apply GJ.and; exact rfl; intro hg) | (apply GJ.or; exact rfl; intro hg) | refine GJ.t omAuto ?_ | refine GJ.f omAuto ?_ | refine GJ.ft omAuto ?_ | refine GJ.ff omAuto ?_))
  refine LoopOk.at (ι := Nat × Nat) Keep.auto (fun (i, z) => [(10, .int .i64 (i : Int)), (4, .int .u64 (z : Int))]) (fun (i, z) => .sl (some ⟨b, 0, none⟩) 2 2 41 1 [.int .u64 x, .int .u64 y] :: r) (fun (i, z) => (i = 0 ∧ z = 0) ∨ (i = 1 ∧ z = x) ∨ (i = 2 ∧ z = x + y)) (fun (i, z) => 2 - i) (0, 0) ?_ Sub.auto Sup.auto ?_
  · exact .inl ⟨rfl, rfl⟩
  rintro ⟨i, z⟩ hi
  dsimp only [List.cons_append, List.nil_append] at hi ⊢
  rcases hi with ⟨rfl, rfl⟩ | ⟨rfl, rfl⟩ | ⟨rfl, rfl⟩
  · repeat (first
      | (show _ ∧ _; exact ⟨rfl, rfl, rfl⟩)
      | refine wkG ?_
      | (show OpOk _ _ _ _ _ _ _; first | refine opB (fun b => ?_) | refine opA (fun a' c' hc1 hc2 => ?_))
      | (show GJ _ _ _ _ _ _ _; first | (apply GJ.and; exact rfl; intro hg) | (apply GJ.or; exact rfl; intro hg) | refine GJ.t omAuto ?_ | refine GJ.f omAuto ?_ | refine GJ.ft omAuto ?_ | refine GJ.ff omAuto ?_))
    refine OpOk.load rfl rfl (v := .int .u64 x) (Ld.hasSl rfl) ?_
    repeat (first
      | (show _ ∧ _; exact ⟨rfl, rfl, rfl⟩)
      | refine wkG ?_
      | (show OpOk _ _ _ _ _ _ _; first | refine opB (fun b => ?_) | refine opA (fun a' c' hc1 hc2 => ?_))
      | (show GJ _ _ _ _ _ _ _; first | (apply GJ.and; exact rfl; intro hg) | (apply GJ.or; exact rfl; intro hg) | refine GJ.t omAuto ?_ | refine GJ.f omAuto ?_ | refine GJ.ft omAuto ?_ | refine GJ.ff omAuto ?_))
    refine wideAdd_ok (x := 0) (by omega) ?_
    repeat (first
      | (show _ ∧ _; exact ⟨rfl, rfl, rfl⟩)
      | refine wkG ?_
      | (show OpOk _ _ _ _ _ _ _; first | refine opB (fun b => ?_) | refine opA (fun a' c' hc1 hc2 => ?_))
      | (show GJ _ _ _ _ _ _ _; first | (apply GJ.and; exact rfl; intro hg) | (apply GJ.or; exact rfl; intro hg) | refine GJ.t omAuto ?_ | refine GJ.f omAuto ?_ | refine GJ.ft omAuto ?_ | refine GJ.ff omAuto ?_))
    refine Wk.id ⟨(1, x), ⟨rfl, ?_⟩, ?_, Sub.auto, Sup.auto⟩
    all_goals try dsimp only
    · exact .inr (.inl ⟨rfl, rfl⟩)
    · omega
  · repeat (first
      | (show _ ∧ _; exact ⟨rfl, rfl, rfl⟩)
      | refine wkG ?_
      | (show OpOk _ _ _ _ _ _ _; first | refine opB (fun b => ?_) | refine opA (fun a' c' hc1 hc2 => ?_))
      | (show GJ _ _ _ _ _ _ _; first | (apply GJ.and; exact rfl; intro hg) | (apply GJ.or; exact rfl; intro hg) | refine GJ.t omAuto ?_ | refine GJ.f omAuto ?_ | refine GJ.ft omAuto ?_ | refine GJ.ff omAuto ?_))
    refine OpOk.load rfl rfl (v := .int .u64 y) (Ld.hasSl rfl) ?_
    repeat (first
      | (show _ ∧ _; exact ⟨rfl, rfl, rfl⟩)
      | refine wkG ?_
      | (show OpOk _ _ _ _ _ _ _; first | refine opB (fun b => ?_) | refine opA (fun a' c' hc1 hc2 => ?_))
      | (show GJ _ _ _ _ _ _ _; first | (apply GJ.and; exact rfl; intro hg) | (apply GJ.or; exact rfl; intro hg) | refine GJ.t omAuto ?_ | refine GJ.f omAuto ?_ | refine GJ.ft omAuto ?_ | refine GJ.ff omAuto ?_))
    refine wideAdd_ok h ?_
    repeat (first
      | (show _ ∧ _; exact ⟨rfl, rfl, rfl⟩)
      | refine wkG ?_
      | (show OpOk _ _ _ _ _ _ _; first | refine opB (fun b => ?_) | refine opA (fun a' c' hc1 hc2 => ?_))
      | (show GJ _ _ _ _ _ _ _; first | (apply GJ.and; exact rfl; intro hg) | (apply GJ.or; exact rfl; intro hg) | refine GJ.t omAuto ?_ | refine GJ.f omAuto ?_ | refine GJ.ft omAuto ?_ | refine GJ.ff omAuto ?_))
    refine Wk.id ⟨(2, _), ⟨rfl, ?_⟩, ?_, Sub.auto, Sup.auto⟩
    all_goals try dsimp only
    · exact .inr (.inr ⟨rfl, rfl⟩)
    · omega
  · repeat (first
      | (show _ ∧ _; exact ⟨rfl, rfl, rfl⟩)
      | refine wkG ?_
      | (show OpOk _ _ _ _ _ _ _; first | refine opB (fun b => ?_) | refine opA (fun a' c' hc1 hc2 => ?_))
      | (show GJ _ _ _ _ _ _ _; first | (apply GJ.and; exact rfl; intro hg) | (apply GJ.or; exact rfl; intro hg) | refine GJ.t omAuto ?_ | refine GJ.f omAuto ?_ | refine GJ.ft omAuto ?_ | refine GJ.ff omAuto ?_))
    exact Wk.outS Sup.auto (.refl _) hk
end
end Go.Proofs.Ytpjiaafkcojddaa
