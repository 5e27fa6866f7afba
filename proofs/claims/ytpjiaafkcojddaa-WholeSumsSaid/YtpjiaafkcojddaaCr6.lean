/- Contract of crc.Join where the second piece has no bytes. -/
import Derived.Test.YtpjiaafkcojddaaCr5
namespace Go.Proofs.Ytpjiaafkcojddaa
open Go Go.E
set_option linter.unusedVariables false
set_option maxRecDepth 10000
section
variable {ro : Ro} {own r : Chs} {K : Value → Ro → Chs → Prop} {g : Chunk → Chs}
theorem join0_ok {x y : Nat} (hx : x < 4294967296) (hy : y < 4294967296) (hk : K (.int .u32 ((x ^^^ y : Nat) : Int)) ro own) : CallOk Try.prog 36 #[.int .u32 x, .int .u32 y, .int .i64 0] ro own K := by
  refine CallOk.intro (args := [_, _, _]) (rs := [_]) T_ok Try.func36 Try.call36 rfl rfl (by kernel_rfl) rfl rfl ?_
  repeat (first
    | (show _ ∧ _; exact ⟨rfl, rfl, rfl⟩)
    | refine wkG ?_
    | (show OpOk _ _ _ _ _ _ _; first | refine opB (fun b => ?_) | refine opA (fun a' c' hc1 hc2 => ?_))
    | (show GJ _ _ _ _ _ _ _; first | (apply GJ.and; exact rfl; intro hg) | (apply GJ.or; exact rfl; intro hg) | refine GJ.t omAuto ?_ | refine GJ.f omAuto ?_ | refine GJ.ft omAuto ?_ | refine GJ.ff omAuto ?_))
  refine LoopOk.at (ι := Nat × List Value) Keep.auto (fun (i, cs) => [(11, .int .i64 (i : Int))]) (fun (i, cs) => .blk b 124 cs :: own) (fun (i, cs) => i ≤ 32 ∧ cs.length = 32) (fun (i, cs) => 32 - i) (0, _) ?_ Sub.auto Sup.auto ?_
  · exact ⟨by omega, by rfl⟩
  rintro ⟨i, cs⟩ ⟨i1, i2⟩
  dsimp only [List.cons_append, List.nil_append]
  repeat (first
    | (show _ ∧ _; exact ⟨rfl, rfl, rfl⟩)
    | refine wkG ?_
    | (show OpOk _ _ _ _ _ _ _; first | refine opB (fun b => ?_) | refine opA (fun a' c' hc1 hc2 => ?_))
    | (show GJ _ _ _ _ _ _ _; first | (apply GJ.and; exact rfl; intro hg) | (apply GJ.or; exact rfl; intro hg) | refine GJ.t omAuto ?_ | refine GJ.f omAuto ?_ | refine GJ.ft omAuto ?_ | refine GJ.ff omAuto ?_))
  refine Br.cases (fun hc => ?_) (fun hc => ?_)
  · repeat (first
      | (show _ ∧ _; exact ⟨rfl, rfl, rfl⟩)
      | refine wkG ?_
      | (show OpOk _ _ _ _ _ _ _; first | refine opB (fun b => ?_) | refine opA (fun a' c' hc1 hc2 => ?_))
      | (show GJ _ _ _ _ _ _ _; first | (apply GJ.and; exact rfl; intro hg) | (apply GJ.or; exact rfl; intro hg) | refine GJ.t omAuto ?_ | refine GJ.f omAuto ?_ | refine GJ.ft omAuto ?_ | refine GJ.ff omAuto ?_))
    refine Bs.all ?_
    repeat (first
      | (show _ ∧ _; exact ⟨rfl, rfl, rfl⟩)
      | refine wkG ?_
      | (show OpOk _ _ _ _ _ _ _; first | refine opB (fun b => ?_) | refine opA (fun a' c' hc1 hc2 => ?_))
      | (show GJ _ _ _ _ _ _ _; first | (apply GJ.and; exact rfl; intro hg) | (apply GJ.or; exact rfl; intro hg) | refine GJ.t omAuto ?_ | refine GJ.f omAuto ?_ | refine GJ.ft omAuto ?_ | refine GJ.ff omAuto ?_))
    obtain ⟨z, hz, hz2⟩ : ∃ z : Nat, (1 : Int) * 2 ^ (i : Int).toNat % 4294967296 = z ∧ z < 4294967296 := ⟨((1 : Int) * 2 ^ (i : Int).toNat % 4294967296).toNat, by rw [Int.toNat_of_nonneg (Int.emod_nonneg _ (by decide))], by have := Int.emod_lt_of_pos ((1 : Int) * 2 ^ (i : Int).toNat) (show (0 : Int) < 4294967296 by decide); have := Int.emod_nonneg ((1 : Int) * 2 ^ (i : Int).toNat) (show (4294967296 : Int) ≠ 0 by decide); omega⟩
    rw [hz]
    refine step_ok hz2 ?_
    repeat (first
      | (show _ ∧ _; exact ⟨rfl, rfl, rfl⟩)
      | refine wkG ?_
      | (show OpOk _ _ _ _ _ _ _; first | refine opB (fun b => ?_) | refine opA (fun a' c' hc1 hc2 => ?_))
      | (show GJ _ _ _ _ _ _ _; first | (apply GJ.and; exact rfl; intro hg) | (apply GJ.or; exact rfl; intro hg) | refine GJ.t omAuto ?_ | refine GJ.f omAuto ?_ | refine GJ.ft omAuto ?_ | refine GJ.ff omAuto ?_))
    refine OpOk.storeAt rfl rfl rfl rfl (by simp; omega) ?_
    repeat (first
      | (show _ ∧ _; exact ⟨rfl, rfl, rfl⟩)
      | refine wkG ?_
      | (show OpOk _ _ _ _ _ _ _; first | refine opB (fun b => ?_) | refine opA (fun a' c' hc1 hc2 => ?_))
      | (show GJ _ _ _ _ _ _ _; first | (apply GJ.and; exact rfl; intro hg) | (apply GJ.or; exact rfl; intro hg) | refine GJ.t omAuto ?_ | refine GJ.f omAuto ?_ | refine GJ.ft omAuto ?_ | refine GJ.ff omAuto ?_))
    refine Wk.id ⟨(i + 1, _), ⟨rfl, ?_⟩, ?_, Sub.auto, Sup.auto⟩
    all_goals try dsimp only
    · exact ⟨by omega, by simp [i2]⟩
    · omega
  · repeat (first
      | (show _ ∧ _; exact ⟨rfl, rfl, rfl⟩)
      | refine wkG ?_
      | (show OpOk _ _ _ _ _ _ _; first | refine opB (fun b => ?_) | refine opA (fun a' c' hc1 hc2 => ?_))
      | (show GJ _ _ _ _ _ _ _; first | (apply GJ.and; exact rfl; intro hg) | (apply GJ.or; exact rfl; intro hg) | refine GJ.t omAuto ?_ | refine GJ.f omAuto ?_ | refine GJ.ft omAuto ?_ | refine GJ.ff omAuto ?_))
    refine LoopOk.at (ι := Unit) Keep.auto (fun () => [(9, .int .i64 0), (0, .int .u32 (x : Int)), (7, ptr' b)]) (fun () => .blk b 124 cs :: own) (fun () => True) (fun () => 0) () ?_ Sub.auto Sup.auto ?_
    · trivial
    rintro ⟨⟩ _
    dsimp only [List.cons_append, List.nil_append]
    repeat (first
      | (show _ ∧ _; exact ⟨rfl, rfl, rfl⟩)
      | refine wkG ?_
      | (show OpOk _ _ _ _ _ _ _; first | refine opB (fun b => ?_) | refine opA (fun a' c' hc1 hc2 => ?_))
      | (show GJ _ _ _ _ _ _ _; first | (apply GJ.and; exact rfl; intro hg) | (apply GJ.or; exact rfl; intro hg) | refine GJ.t omAuto ?_ | refine GJ.f omAuto ?_ | refine GJ.ft omAuto ?_ | refine GJ.ff omAuto ?_))
    rw [nxor2_nat]
    exact Wk.outS Sup.auto (.refl _) hk
end
end Go.Proofs.Ytpjiaafkcojddaa
