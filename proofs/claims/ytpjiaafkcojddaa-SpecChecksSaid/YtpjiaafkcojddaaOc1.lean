/- Contracts of package octet, first part: a reader's. -/
import Derived.Test.YtpjiaafkcojddaaT
namespace Go.Proofs.Ytpjiaafkcojddaa
open Go Go.E
set_option linter.unusedVariables false
section
variable {ro : Ro} {own : Chs} {K : Value → Ro → Chs → Prop} {f : Chunk → Chs}
/-- A reader's cells. -/
abbrev rdr (a : Option Addr) (n c : Nat) (k : Int) : List Value := [.slice a n c, .int .i64 k]
theorem new_ok {a : Option Addr} {n c : Nat} (hk : ∀ b, K (ptr' b) ro (.blk b 130 (rdr a n c 0) :: own)) : CallOk Try.prog 39 #[.slice a n c] ro own K := by
  refine CallOk.intro (args := [_]) (rs := [_]) T_ok Try.func39 Try.call39 rfl rfl (by kernel_rfl) rfl rfl ?_
  repeat (first
    | (show _ ∧ _; exact ⟨rfl, rfl, rfl⟩)
    | refine wkG ?_
    | (show OpOk _ _ _ _ _ _ _; first | refine opB (fun b => ?_) | refine opA (fun a' c' hc1 hc2 => ?_))
    | (show GJ _ _ _ _ _ _ _; first | (apply GJ.and; exact rfl; intro hg) | (apply GJ.or; exact rfl; intro hg) | refine GJ.t omAuto ?_ | refine GJ.f omAuto ?_ | refine GJ.ft omAuto ?_ | refine GJ.ff omAuto ?_))
  exact Wk.id (hk b)
theorem left_ok {p n c : Nat} {k : Int} {a : Option Addr} [hb : HasBlk own p 130 (rdr a n c k) f] (hkn : 0 ≤ k ∧ k ≤ n) (hn : n ≤ 1000000000) (hk : K (.int .i64 ((n : Int) - k)) ro own) : CallOk Try.prog 42 #[ptr' p] ro own K := by
  refine CallOk.intro (args := [_]) (rs := [_]) T_ok Try.func42 Try.call42 rfl rfl (by kernel_rfl) rfl rfl ?_
  repeat (first
    | (show _ ∧ _; exact ⟨rfl, rfl, rfl⟩)
    | refine wkG ?_
    | (show OpOk _ _ _ _ _ _ _; first | refine opB (fun b => ?_) | refine opA (fun a' c' hc1 hc2 => ?_))
    | (show GJ _ _ _ _ _ _ _; first | (apply GJ.and; exact rfl; intro hg) | (apply GJ.or; exact rfl; intro hg) | refine GJ.t omAuto ?_ | refine GJ.f omAuto ?_ | refine GJ.ft omAuto ?_ | refine GJ.ff omAuto ?_))
  exact Wk.id hk
end
end Go.Proofs.Ytpjiaafkcojddaa
