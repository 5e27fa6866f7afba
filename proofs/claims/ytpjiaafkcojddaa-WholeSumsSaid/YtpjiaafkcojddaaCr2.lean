/- Contracts: a Once's slow road (two calls are deferred), and Do. -/
import Derived.Test.YtpjiaafkcojddaaCr1
import Derived.Tactics
import Derived.Tactics2
import Derived.Laws.Pointers
import Derived.RegionTactic
import Derived.RegionCalls
import Derived.ChangeAlike
namespace Go.Proofs.Ytpjiaafkcojddaa
open Go Go.E
set_option linter.unusedVariables false
set_option maxRecDepth 100000
set_option maxHeartbeats 1600000
section
variable {ro : Ro} {own r : Chs} {K : Value → Ro → Chs → Prop} {g : Chunk → Chs}
theorem slow_calls {b pl : Nat} {t : TypeId} {sm : Value} {rest : List Value} {Ψ : Ro → List Value → Chs → Prop} (w : World) (hs : Sat ro (.blk b t (.int .u32 0 :: .int .i32 0 :: sm :: rest) :: r) w.heap)
    (hfun : CallOk Try.prog 63 #[ptr' pl] ro (.blk b t (.int .u32 0 :: .int .i32 1 :: sm :: rest) :: r) (fun v ro' own' => v = .tuple #[] ∧ ∃ rest' r', own' = .blk b t (.int .u32 0 :: .int .i32 1 :: sm :: rest') :: r' ∧ Ψ ro' rest' r'))
    (hk : ∀ ro' rest' r', Le ro ro' → Ψ ro' rest' r' → K (.tuple #[]) ro' (.blk b t (.int .u32 1 :: .int .i32 0 :: sm :: rest') :: r')) :
    Calls Try.prog 77 #[ptr' b, .func (.func 63) #[] #[ptr' pl]] w (fun e w' => ∃ v, e = .returned v ∧ Post ro K w v w') := by
  have hlock := CallOk.calls Try.call87 (show CallOk Try.prog 87 #[.pointer (some ⟨b, 1, none⟩)] ro (.blk b t (.int .u32 0 :: .int .i32 0 :: sm :: rest) :: r) (fun v ro' own' => v = .tuple #[] ∧ ro' = ro ∧ own' = .blk b t (.int .u32 0 :: .int .i32 1 :: sm :: rest) :: r) by
    refine ilock_ok ?_
    exact ⟨rfl, rfl, rfl⟩) hs
  have hload : ∀ w1 : World, Sat ro (.blk b t (.int .u32 0 :: .int .i32 1 :: sm :: rest) :: r) w1.heap → Calls Try.prog 76 #[.pointer (some ⟨b, 0, none⟩)] w1 (fun e w' => ∃ v, e = .returned v ∧ Post ro (fun v ro' own' => v = .bool false ∧ ro' = ro ∧ own' = .blk b t (.int .u32 0 :: .int .i32 1 :: sm :: rest) :: r) w1 v w') := fun w1 hs1 =>
    CallOk.calls Try.call76 (by
      refine bload_ok (x := 0) (by exact Ld.hasBlk rfl) ?_
      exact ⟨rfl, rfl, rfl⟩) hs1
  have hnot : ∀ (x : Bool) (w : World), (Op.unary .not (.bool x)).run Try.prog w = .ok (.bool (!x)) w := fun _ _ => rfl
  have hcl := Try.call63
  go_enter_defers Try.func77, Try.ntmps77
  go_wp2_with (first
    | (go_at_call 87; refine hlock.mono ?_; rintro e w1 ⟨v, rfl, hh1, ro1, own1, hl1, hs1, rfl, rfl, rfl⟩)
    | (go_at_call 76; refine (hload _ (by assumption)).mono ?_; rintro e w2 ⟨v, rfl, hh2, ro2, own2, hl2, hs2, rfl, rfl, rfl⟩)
    | (go_at_call 63; refine (CallOk.calls hcl hfun (by assumption)).mono ?_; rintro e w3 ⟨v, rfl, hh3, ro3, own3, hl3, hs3, rfl, rest', r', rfl, hΨ⟩))
  refine leaves_cons (f := 89) (args := #[.pointer (some ⟨b, 0, none⟩), .bool true]) (by simp) (by simp [go_sem, Try.call89]) ?_
  have hst : DefOk Try.prog 89 #[.pointer (some ⟨b, 0, none⟩), .bool true] ro3 (.blk b t (.int .u32 0 :: .int .i32 1 :: sm :: rest') :: r') (fun v ro' own' => v = .tuple #[] ∧ ro' = ro3 ∧ own' = .blk b t (.int .u32 1 :: .int .i32 1 :: sm :: rest') :: r') := by
    refine bstoreD_ok (.hit _ _ _) ?_
    exact ⟨rfl, rfl, rfl⟩
  refine (hst.run w3 _ hs3).mono ?_
  rintro e u' w4 ⟨rfl, v, rfl, hh4, ro4, own4, hl4, hs4, rfl, rfl, rfl⟩
  refine leaves_cons (f := 88) (args := #[.pointer (some ⟨b, 1, none⟩)]) (by simp [settle]) (by simp [go_sem, Try.call88]) ?_
  have hul : DefOk Try.prog 88 #[.pointer (some ⟨b, 1, none⟩)] ro4 (.blk b t (.int .u32 1 :: .int .i32 1 :: sm :: rest') :: r') (fun v ro' own' => v = .tuple #[] ∧ ro' = ro4 ∧ own' = .blk b t (.int .u32 1 :: .int .i32 0 :: sm :: rest') :: r') := by
    refine iunlockD_ok ?_
    exact ⟨rfl, rfl, rfl⟩
  refine (hul.run w4 _ hs4).mono ?_
  rintro e u' w5 ⟨rfl, v, rfl, hh5, ro5, own5, hl5, hs5, rfl, rfl, rfl⟩
  have hhp : Hp w5.heap w w5 := ((((hh1.trans hh2).trans hh3).trans hh4).trans hh5)
  have hfin : ∃ v : Value, Ending.returned (.tuple #[]) = Ending.returned v ∧ Post ro2 K w v w5 := ⟨_, rfl, hhp, ro5, _, hl3, hs5, hk _ _ _ hl3 hΨ⟩
  exact ⟨.tuple #[], by simp [results, Try.results77], hfin⟩
theorem slow_ok {b pl : Nat} {t : TypeId} {sm : Value} {rest : List Value} {Ψ : Ro → List Value → Chs → Prop}
    (hfun : CallOk Try.prog 63 #[ptr' pl] ro (.blk b t (.int .u32 0 :: .int .i32 1 :: sm :: rest) :: r) (fun v ro' own' => v = .tuple #[] ∧ ∃ rest' r', own' = .blk b t (.int .u32 0 :: .int .i32 1 :: sm :: rest') :: r' ∧ Ψ ro' rest' r'))
    (hk : ∀ ro' rest' r', Le ro ro' → Ψ ro' rest' r' → K (.tuple #[]) ro' (.blk b t (.int .u32 1 :: .int .i32 0 :: sm :: rest') :: r')) :
    CallOk Try.prog 77 #[ptr' b, .func (.func 63) #[] #[ptr' pl]] ro (.blk b t (.int .u32 0 :: .int .i32 0 :: sm :: rest) :: r) K :=
  ⟨fun w hs => .inl ⟨Try.call77 _ w, slow_calls w hs hfun hk⟩⟩
theorem do_first {b pl : Nat} {t : TypeId} {sm : Value} {rest : List Value} {Ψ : Ro → List Value → Chs → Prop}
    (hfun : CallOk Try.prog 63 #[ptr' pl] ro (.blk b t (.int .u32 0 :: .int .i32 1 :: sm :: rest) :: r) (fun v ro' own' => v = .tuple #[] ∧ ∃ rest' r', own' = .blk b t (.int .u32 0 :: .int .i32 1 :: sm :: rest') :: r' ∧ Ψ ro' rest' r'))
    (hk : ∀ ro' rest' r', Le ro ro' → Ψ ro' rest' r' → K (.tuple #[]) ro' (.blk b t (.int .u32 1 :: .int .i32 0 :: sm :: rest') :: r')) :
    CallOk Try.prog 62 #[ptr' b, .func (.func 63) #[] #[ptr' pl]] ro (.blk b t (.int .u32 0 :: .int .i32 0 :: sm :: rest) :: r) K := by
  refine CallOk.intro (args := [_, _]) (rs := []) T_ok Try.func62 Try.call62 rfl rfl (by kernel_rfl) rfl rfl ?_
  repeat (first
    | (show _ ∧ _; exact ⟨rfl, rfl, rfl⟩)
    | refine wkG ?_
    | (show OpOk _ _ _ _ _ _ _; first | refine opB (fun b => ?_) | refine opA (fun a' c' hc1 hc2 => ?_))
    | (show GJ _ _ _ _ _ _ _; first | (apply GJ.and; exact rfl; intro hg) | (apply GJ.or; exact rfl; intro hg) | refine GJ.t omAuto ?_ | refine GJ.f omAuto ?_ | refine GJ.ft omAuto ?_ | refine GJ.ff omAuto ?_))
  refine bload_ok (x := 0) (by exact Ld.hasBlk rfl) ?_
  repeat (first
    | (show _ ∧ _; exact ⟨rfl, rfl, rfl⟩)
    | refine wkG ?_
    | (show OpOk _ _ _ _ _ _ _; first | refine opB (fun b => ?_) | refine opA (fun a' c' hc1 hc2 => ?_))
    | (show GJ _ _ _ _ _ _ _; first | (apply GJ.and; exact rfl; intro hg) | (apply GJ.or; exact rfl; intro hg) | refine GJ.t omAuto ?_ | refine GJ.f omAuto ?_ | refine GJ.ft omAuto ?_ | refine GJ.ff omAuto ?_))
  refine slow_ok hfun (fun ro' rest' r' hl hΨ => ?_)
  repeat (first
    | (show _ ∧ _; exact ⟨rfl, rfl, rfl⟩)
    | refine wkG ?_
    | (show OpOk _ _ _ _ _ _ _; first | refine opB (fun b => ?_) | refine opA (fun a' c' hc1 hc2 => ?_))
    | (show GJ _ _ _ _ _ _ _; first | (apply GJ.and; exact rfl; intro hg) | (apply GJ.or; exact rfl; intro hg) | refine GJ.t omAuto ?_ | refine GJ.f omAuto ?_ | refine GJ.ft omAuto ?_ | refine GJ.ff omAuto ?_))
  exact Wk.id (hk _ _ _ hl hΨ)
theorem do_done {b : Nat} {t : TypeId} {fv : Value} {rest : List Value} [hb : HasBlk own b t (.int .u32 1 :: rest) g] (hk : K (.tuple #[]) ro own) : CallOk Try.prog 62 #[ptr' b, fv] ro own K := by
  refine CallOk.intro (args := [_, _]) (rs := []) T_ok Try.func62 Try.call62 rfl rfl (by kernel_rfl) rfl rfl ?_
  repeat (first
    | (show _ ∧ _; exact ⟨rfl, rfl, rfl⟩)
    | refine wkG ?_
    | (show OpOk _ _ _ _ _ _ _; first | refine opB (fun b => ?_) | refine opA (fun a' c' hc1 hc2 => ?_))
    | (show GJ _ _ _ _ _ _ _; first | (apply GJ.and; exact rfl; intro hg) | (apply GJ.or; exact rfl; intro hg) | refine GJ.t omAuto ?_ | refine GJ.f omAuto ?_ | refine GJ.ft omAuto ?_ | refine GJ.ff omAuto ?_))
  refine bload_ok (x := 1) (by exact Ld.hasBlk rfl) ?_
  repeat (first
    | (show _ ∧ _; exact ⟨rfl, rfl, rfl⟩)
    | refine wkG ?_
    | (show OpOk _ _ _ _ _ _ _; first | refine opB (fun b => ?_) | refine opA (fun a' c' hc1 hc2 => ?_))
    | (show GJ _ _ _ _ _ _ _; first | (apply GJ.and; exact rfl; intro hg) | (apply GJ.or; exact rfl; intro hg) | refine GJ.t omAuto ?_ | refine GJ.f omAuto ?_ | refine GJ.ft omAuto ?_ | refine GJ.ff omAuto ?_))
  exact Wk.id hk
end
end Go.Proofs.Ytpjiaafkcojddaa
