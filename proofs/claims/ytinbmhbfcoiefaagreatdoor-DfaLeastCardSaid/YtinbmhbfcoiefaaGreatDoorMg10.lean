/- Texts of a walk, one behind the other. -/
import Derived.Tactics
import Derived.Tactics2
import Derived.Laws.Pointers
import Derived.RegionTactic
import Derived.RegionCalls
import Derived.ChangeAlike
import Derived.Test.YtinbmhbfcoiefaaGreatDoorMg6
import Derived.Test.YtinbmhbfcoiefaaGreatDoorMg8
import Derived.Test.YtinbmhbfcoiefaaGreatDoorMg9
section
/- Contracts: atomics and the lock, as a Once within a Lazy uses them (eight cells lie ahead of it). -/
namespace Go.Proofs.YtinbmhbfcoiefaaGreatDoor
open Go Go.E
set_option linter.unusedVariables false
set_option maxRecDepth 10000
section
variable {ro : Ro} {own : Chs} {K : Value → Ro → Chs → Prop} {g : Chunk → Chs}
theorem bload_ok {b o : Nat} {x : Int} (hl : Ld ro own b o (.int .u32 x)) (hk : K (.bool (decide (x ≠ 0))) ro own) : CallOk Tryz.prog 61 #[.pointer (some ⟨b, o, none⟩)] ro own K := by
  refine CallOk.intro (args := [_]) (rs := [_]) T_ok Tryz.func61 Tryz.call61 rfl rfl (by kernel_rfl) rfl rfl ?_
  repeat (first | exact endA | refine wkG ?_ | refine opB (fun b => ?_) | refine opA (fun a' c' hc1 hc2 => ?_) | (show GJ _ _ _ _ _ _ _; first | (apply GJ.and; exact rfl; intro hg) | (apply GJ.or; exact rfl; intro hg) | refine GJ.t omAuto ?_ | refine GJ.f omAuto ?_ | refine GJ.ft omAuto ?_ | refine GJ.ff omAuto ?_))
  refine CallOk.aload Tryz.func80 (by kernel_rfl) (by kernel_rfl) (by kernel_rfl) .u32 (by kernel_rfl) (x := x) (by simpa using hl) ?_
  repeat (first | exact endA | refine wkG ?_ | refine opB (fun b => ?_) | refine opA (fun a' c' hc1 hc2 => ?_) | (show GJ _ _ _ _ _ _ _; first | (apply GJ.and; exact rfl; intro hg) | (apply GJ.or; exact rfl; intro hg) | refine GJ.t omAuto ?_ | refine GJ.f omAuto ?_ | refine GJ.ft omAuto ?_ | refine GJ.ff omAuto ?_))
  exact Wk.id hk
theorem b32_ok (hk : K (.int .u32 1) ro own) : CallOk Tryz.prog 93 #[.bool true] ro own K := by
  refine CallOk.intro (args := [_]) (rs := [_]) T_ok Tryz.func93 Tryz.call93 rfl rfl (by kernel_rfl) rfl rfl ?_
  repeat (first | exact endA | refine wkG ?_ | refine opB (fun b => ?_) | refine opA (fun a' c' hc1 hc2 => ?_) | (show GJ _ _ _ _ _ _ _; first | (apply GJ.and; exact rfl; intro hg) | (apply GJ.or; exact rfl; intro hg) | refine GJ.t omAuto ?_ | refine GJ.f omAuto ?_ | refine GJ.ft omAuto ?_ | refine GJ.ff omAuto ?_))
  exact Wk.id hk
theorem lock_ok {b : Nat} {t : TypeId} {z0 z1 z2 z3 z4 z5 z6 z7 d sm : Value} {rest : List Value} [hb : HasBlk own b t (z0 :: z1 :: z2 :: z3 :: z4 :: z5 :: z6 :: z7 :: d :: .int .i32 0 :: sm :: rest) g] (hk : K (.tuple #[]) ro (g (.blk b t (z0 :: z1 :: z2 :: z3 :: z4 :: z5 :: z6 :: z7 :: d :: .int .i32 1 :: sm :: rest)))) : CallOk Tryz.prog 90 #[.pointer (some ⟨b, 9, none⟩)] ro own K := by
  obtain ⟨r, p1, p2⟩ := hb.split
  refine CallOk.perm p1 ?_
  clear hb
  refine CallOk.intro (args := [_]) (rs := []) T_ok Tryz.func90 Tryz.call90 rfl rfl (by kernel_rfl) rfl rfl ?_
  repeat (first | exact endA | refine wkG ?_ | refine opB (fun b => ?_) | refine opA (fun a' c' hc1 hc2 => ?_) | (show GJ _ _ _ _ _ _ _; first | (apply GJ.and; exact rfl; intro hg) | (apply GJ.or; exact rfl; intro hg) | refine GJ.t omAuto ?_ | refine GJ.f omAuto ?_ | refine GJ.ft omAuto ?_ | refine GJ.ff omAuto ?_))
  refine CallOk.mark0 Tryz.func98 (by kernel_rfl) (by kernel_rfl) (by kernel_rfl) .disable (by kernel_rfl) ?_
  repeat (first | exact endA | refine wkG ?_ | refine opB (fun b => ?_) | refine opA (fun a' c' hc1 hc2 => ?_) | (show GJ _ _ _ _ _ _ _; first | (apply GJ.and; exact rfl; intro hg) | (apply GJ.or; exact rfl; intro hg) | refine GJ.t omAuto ?_ | refine GJ.f omAuto ?_ | refine GJ.ft omAuto ?_ | refine GJ.ff omAuto ?_))
  refine CallOk.acas Tryz.func99 (by kernel_rfl) (by kernel_rfl) (by kernel_rfl) .i32 (by kernel_rfl) rfl (.miss _ (.miss _ (.miss _ (.miss _ (.miss _ (.miss _ (.miss _ (.miss _ (.miss _ (.hit _ _ _)))))))))) ?_
  repeat (first | exact endA | refine wkG ?_ | refine opB (fun b => ?_) | refine opA (fun a' c' hc1 hc2 => ?_) | (show GJ _ _ _ _ _ _ _; first | (apply GJ.and; exact rfl; intro hg) | (apply GJ.or; exact rfl; intro hg) | refine GJ.t omAuto ?_ | refine GJ.f omAuto ?_ | refine GJ.ft omAuto ?_ | refine GJ.ff omAuto ?_))
  refine SeqOk.pass ?_
  repeat (first | exact endA | refine wkG ?_ | refine opB (fun b => ?_) | refine opA (fun a' c' hc1 hc2 => ?_) | (show GJ _ _ _ _ _ _ _; first | (apply GJ.and; exact rfl; intro hg) | (apply GJ.or; exact rfl; intro hg) | refine GJ.t omAuto ?_ | refine GJ.f omAuto ?_ | refine GJ.ft omAuto ?_ | refine GJ.ff omAuto ?_))
  refine CallOk.mark0 Tryz.func100 (by kernel_rfl) (by kernel_rfl) (by kernel_rfl) .enable (by kernel_rfl) ?_
  repeat (first | exact endA | refine wkG ?_ | refine opB (fun b => ?_) | refine opA (fun a' c' hc1 hc2 => ?_) | (show GJ _ _ _ _ _ _ _; first | (apply GJ.and; exact rfl; intro hg) | (apply GJ.or; exact rfl; intro hg) | refine GJ.t omAuto ?_ | refine GJ.f omAuto ?_ | refine GJ.ft omAuto ?_ | refine GJ.ff omAuto ?_))
  refine OpOk.unsafe rfl rfl (by kernel_rfl) (by kernel_rfl) (by exact Ld.hasBlk rfl) ?_
  repeat (first | exact endA | refine wkG ?_ | refine opB (fun b => ?_) | refine opA (fun a' c' hc1 hc2 => ?_) | (show GJ _ _ _ _ _ _ _; first | (apply GJ.and; exact rfl; intro hg) | (apply GJ.or; exact rfl; intro hg) | refine GJ.t omAuto ?_ | refine GJ.f omAuto ?_ | refine GJ.ft omAuto ?_ | refine GJ.ff omAuto ?_))
  refine CallOk.marked Tryz.func101 (by kernel_rfl) (by kernel_rfl) (by kernel_rfl) .acquire (by kernel_rfl) ?_
  repeat (first | exact endA | refine wkG ?_ | refine opB (fun b => ?_) | refine opA (fun a' c' hc1 hc2 => ?_) | (show GJ _ _ _ _ _ _ _; first | (apply GJ.and; exact rfl; intro hg) | (apply GJ.or; exact rfl; intro hg) | refine GJ.t omAuto ?_ | refine GJ.f omAuto ?_ | refine GJ.ft omAuto ?_ | refine GJ.ff omAuto ?_))
  exact Wk.out (p2 _) hk
theorem ilock_ok {b : Nat} {t : TypeId} {z0 z1 z2 z3 z4 z5 z6 z7 d sm : Value} {rest : List Value} [hb : HasBlk own b t (z0 :: z1 :: z2 :: z3 :: z4 :: z5 :: z6 :: z7 :: d :: .int .i32 0 :: sm :: rest) g] (hk : K (.tuple #[]) ro (g (.blk b t (z0 :: z1 :: z2 :: z3 :: z4 :: z5 :: z6 :: z7 :: d :: .int .i32 1 :: sm :: rest)))) : CallOk Tryz.prog 81 #[.pointer (some ⟨b, 9, none⟩)] ro own K := by
  refine CallOk.intro (args := [_]) (rs := []) T_ok Tryz.func81 Tryz.call81 rfl rfl (by kernel_rfl) rfl rfl ?_
  repeat (first | exact endA | refine wkG ?_ | refine opB (fun b => ?_) | refine opA (fun a' c' hc1 hc2 => ?_) | (show GJ _ _ _ _ _ _ _; first | (apply GJ.and; exact rfl; intro hg) | (apply GJ.or; exact rfl; intro hg) | refine GJ.t omAuto ?_ | refine GJ.f omAuto ?_ | refine GJ.ft omAuto ?_ | refine GJ.ff omAuto ?_))
  refine lock_ok ?_
  repeat (first | exact endA | refine wkG ?_ | refine opB (fun b => ?_) | refine opA (fun a' c' hc1 hc2 => ?_) | (show GJ _ _ _ _ _ _ _; first | (apply GJ.and; exact rfl; intro hg) | (apply GJ.or; exact rfl; intro hg) | refine GJ.t omAuto ?_ | refine GJ.f omAuto ?_ | refine GJ.ft omAuto ?_ | refine GJ.ff omAuto ?_))
  exact Wk.id hk
theorem unlock_ok {b : Nat} {t : TypeId} {z0 z1 z2 z3 z4 z5 z6 z7 d sm : Value} {rest : List Value} [hb : HasBlk own b t (z0 :: z1 :: z2 :: z3 :: z4 :: z5 :: z6 :: z7 :: d :: .int .i32 1 :: sm :: rest) g] (hk : K (.tuple #[]) ro (g (.blk b t (z0 :: z1 :: z2 :: z3 :: z4 :: z5 :: z6 :: z7 :: d :: .int .i32 0 :: sm :: rest)))) : CallOk Tryz.prog 91 #[.pointer (some ⟨b, 9, none⟩)] ro own K := by
  obtain ⟨r, p1, p2⟩ := hb.split
  refine CallOk.perm p1 ?_
  clear hb
  refine CallOk.intro (args := [_]) (rs := []) T_ok Tryz.func91 Tryz.call91 rfl rfl (by kernel_rfl) rfl rfl ?_
  repeat (first | exact endA | refine wkG ?_ | refine opB (fun b => ?_) | refine opA (fun a' c' hc1 hc2 => ?_) | (show GJ _ _ _ _ _ _ _; first | (apply GJ.and; exact rfl; intro hg) | (apply GJ.or; exact rfl; intro hg) | refine GJ.t omAuto ?_ | refine GJ.f omAuto ?_ | refine GJ.ft omAuto ?_ | refine GJ.ff omAuto ?_))
  refine SeqOk.pass ?_
  repeat (first | exact endA | refine wkG ?_ | refine opB (fun b => ?_) | refine opA (fun a' c' hc1 hc2 => ?_) | (show GJ _ _ _ _ _ _ _; first | (apply GJ.and; exact rfl; intro hg) | (apply GJ.or; exact rfl; intro hg) | refine GJ.t omAuto ?_ | refine GJ.f omAuto ?_ | refine GJ.ft omAuto ?_ | refine GJ.ff omAuto ?_))
  refine OpOk.unsafe rfl rfl (by kernel_rfl) (by kernel_rfl) (by exact Ld.hasBlk rfl) ?_
  repeat (first | exact endA | refine wkG ?_ | refine opB (fun b => ?_) | refine opA (fun a' c' hc1 hc2 => ?_) | (show GJ _ _ _ _ _ _ _; first | (apply GJ.and; exact rfl; intro hg) | (apply GJ.or; exact rfl; intro hg) | refine GJ.t omAuto ?_ | refine GJ.f omAuto ?_ | refine GJ.ft omAuto ?_ | refine GJ.ff omAuto ?_))
  refine CallOk.marked Tryz.func103 (by kernel_rfl) (by kernel_rfl) (by kernel_rfl) .releaseMerge (by kernel_rfl) ?_
  repeat (first | exact endA | refine wkG ?_ | refine opB (fun b => ?_) | refine opA (fun a' c' hc1 hc2 => ?_) | (show GJ _ _ _ _ _ _ _; first | (apply GJ.and; exact rfl; intro hg) | (apply GJ.or; exact rfl; intro hg) | refine GJ.t omAuto ?_ | refine GJ.f omAuto ?_ | refine GJ.ft omAuto ?_ | refine GJ.ff omAuto ?_))
  refine CallOk.mark0 Tryz.func98 (by kernel_rfl) (by kernel_rfl) (by kernel_rfl) .disable (by kernel_rfl) ?_
  repeat (first | exact endA | refine wkG ?_ | refine opB (fun b => ?_) | refine opA (fun a' c' hc1 hc2 => ?_) | (show GJ _ _ _ _ _ _ _; first | (apply GJ.and; exact rfl; intro hg) | (apply GJ.or; exact rfl; intro hg) | refine GJ.t omAuto ?_ | refine GJ.f omAuto ?_ | refine GJ.ft omAuto ?_ | refine GJ.ff omAuto ?_))
  refine CallOk.aadd Tryz.func63 (by kernel_rfl) (by kernel_rfl) (by kernel_rfl) .i32 (by kernel_rfl) (s := 0) rfl (by decide) (.miss _ (.miss _ (.miss _ (.miss _ (.miss _ (.miss _ (.miss _ (.miss _ (.miss _ (.hit _ _ _)))))))))) ?_
  repeat (first | exact endA | refine wkG ?_ | refine opB (fun b => ?_) | refine opA (fun a' c' hc1 hc2 => ?_) | (show GJ _ _ _ _ _ _ _; first | (apply GJ.and; exact rfl; intro hg) | (apply GJ.or; exact rfl; intro hg) | refine GJ.t omAuto ?_ | refine GJ.f omAuto ?_ | refine GJ.ft omAuto ?_ | refine GJ.ff omAuto ?_))
  refine SeqOk.pass ?_
  repeat (first | exact endA | refine wkG ?_ | refine opB (fun b => ?_) | refine opA (fun a' c' hc1 hc2 => ?_) | (show GJ _ _ _ _ _ _ _; first | (apply GJ.and; exact rfl; intro hg) | (apply GJ.or; exact rfl; intro hg) | refine GJ.t omAuto ?_ | refine GJ.f omAuto ?_ | refine GJ.ft omAuto ?_ | refine GJ.ff omAuto ?_))
  refine CallOk.mark0 Tryz.func100 (by kernel_rfl) (by kernel_rfl) (by kernel_rfl) .enable (by kernel_rfl) ?_
  repeat (first | exact endA | refine wkG ?_ | refine opB (fun b => ?_) | refine opA (fun a' c' hc1 hc2 => ?_) | (show GJ _ _ _ _ _ _ _; first | (apply GJ.and; exact rfl; intro hg) | (apply GJ.or; exact rfl; intro hg) | refine GJ.t omAuto ?_ | refine GJ.f omAuto ?_ | refine GJ.ft omAuto ?_ | refine GJ.ff omAuto ?_))
  exact Wk.out (p2 _) hk
theorem bstoreD_ok {b o : Nat} {t : TypeId} {cs cs' : List Value} [hb : HasBlk own b t cs g] (hs : SetR cs o (.int .u32 1) cs') (hk : K (.tuple #[]) ro (g (.blk b t cs'))) : DefOk Tryz.prog 83 #[.pointer (some ⟨b, o, none⟩), .bool true] ro own K := by
  refine DefOk.intro (args := [_, _]) (rs := []) T_ok Tryz.func83 Tryz.call83 rfl rfl (by kernel_rfl) rfl rfl ?_
  repeat (first | exact endA | refine wkG ?_ | refine opB (fun b => ?_) | refine opA (fun a' c' hc1 hc2 => ?_) | (show GJ _ _ _ _ _ _ _; first | (apply GJ.and; exact rfl; intro hg) | (apply GJ.or; exact rfl; intro hg) | refine GJ.t omAuto ?_ | refine GJ.f omAuto ?_ | refine GJ.ft omAuto ?_ | refine GJ.ff omAuto ?_))
  refine Bs.all ?_
  repeat (first | exact endA | refine wkG ?_ | refine opB (fun b => ?_) | refine opA (fun a' c' hc1 hc2 => ?_) | (show GJ _ _ _ _ _ _ _; first | (apply GJ.and; exact rfl; intro hg) | (apply GJ.or; exact rfl; intro hg) | refine GJ.t omAuto ?_ | refine GJ.f omAuto ?_ | refine GJ.ft omAuto ?_ | refine GJ.ff omAuto ?_))
  refine b32_ok ?_
  repeat (first | exact endA | refine wkG ?_ | refine opB (fun b => ?_) | refine opA (fun a' c' hc1 hc2 => ?_) | (show GJ _ _ _ _ _ _ _; first | (apply GJ.and; exact rfl; intro hg) | (apply GJ.or; exact rfl; intro hg) | refine GJ.t omAuto ?_ | refine GJ.f omAuto ?_ | refine GJ.ft omAuto ?_ | refine GJ.ff omAuto ?_))
  refine CallOk.astore Tryz.func92 (by kernel_rfl) (by kernel_rfl) (by kernel_rfl) (by kernel_rfl) (by simpa using hs) ?_
  repeat (first | exact endA | refine wkG ?_ | refine opB (fun b => ?_) | refine opA (fun a' c' hc1 hc2 => ?_) | (show GJ _ _ _ _ _ _ _; first | (apply GJ.and; exact rfl; intro hg) | (apply GJ.or; exact rfl; intro hg) | refine GJ.t omAuto ?_ | refine GJ.f omAuto ?_ | refine GJ.ft omAuto ?_ | refine GJ.ff omAuto ?_))
  exact Wk.id hk
theorem iunlockD_ok {b : Nat} {t : TypeId} {z0 z1 z2 z3 z4 z5 z6 z7 d sm : Value} {rest : List Value} [hb : HasBlk own b t (z0 :: z1 :: z2 :: z3 :: z4 :: z5 :: z6 :: z7 :: d :: .int .i32 1 :: sm :: rest) g] (hk : K (.tuple #[]) ro (g (.blk b t (z0 :: z1 :: z2 :: z3 :: z4 :: z5 :: z6 :: z7 :: d :: .int .i32 0 :: sm :: rest)))) : DefOk Tryz.prog 82 #[.pointer (some ⟨b, 9, none⟩)] ro own K := by
  refine DefOk.intro (args := [_]) (rs := []) T_ok Tryz.func82 Tryz.call82 rfl rfl (by kernel_rfl) rfl rfl ?_
  repeat (first | exact endA | refine wkG ?_ | refine opB (fun b => ?_) | refine opA (fun a' c' hc1 hc2 => ?_) | (show GJ _ _ _ _ _ _ _; first | (apply GJ.and; exact rfl; intro hg) | (apply GJ.or; exact rfl; intro hg) | refine GJ.t omAuto ?_ | refine GJ.f omAuto ?_ | refine GJ.ft omAuto ?_ | refine GJ.ff omAuto ?_))
  refine unlock_ok ?_
  repeat (first | exact endA | refine wkG ?_ | refine opB (fun b => ?_) | refine opA (fun a' c' hc1 hc2 => ?_) | (show GJ _ _ _ _ _ _ _; first | (apply GJ.and; exact rfl; intro hg) | (apply GJ.or; exact rfl; intro hg) | refine GJ.t omAuto ?_ | refine GJ.f omAuto ?_ | refine GJ.ft omAuto ?_ | refine GJ.ff omAuto ?_))
  exact Wk.id hk
end
end Go.Proofs.YtinbmhbfcoiefaaGreatDoor
end
section
/- Contracts: the slow road of a Once within a Lazy (two calls are deferred), and Do. -/
namespace Go.Proofs.YtinbmhbfcoiefaaGreatDoor
open Go Go.E
set_option linter.unusedVariables false
set_option maxRecDepth 100000
set_option maxHeartbeats 1600000
section
variable {ro : Ro} {own r : Chs} {K : Value → Ro → Chs → Prop} {g : Chunk → Chs}
theorem slow_calls {b pl : Nat} {t : TypeId} {z0 z1 z2 z3 z4 z5 z6 z7 sm : Value} {rest : List Value} {Ψ : Ro → List Value → Chs → Prop} (w : World) (hs : Sat ro (.blk b t (z0 :: z1 :: z2 :: z3 :: z4 :: z5 :: z6 :: z7 :: .int .u32 0 :: .int .i32 0 :: sm :: rest) :: r) w.heap)
    (hfun : CallOk Tryz.prog 38 #[ptr' pl] ro (.blk b t (z0 :: z1 :: z2 :: z3 :: z4 :: z5 :: z6 :: z7 :: .int .u32 0 :: .int .i32 1 :: sm :: rest) :: r) (fun v ro' own' => v = .tuple #[] ∧ ∃ rest' r', own' = .blk b t (z0 :: z1 :: z2 :: z3 :: z4 :: z5 :: z6 :: z7 :: .int .u32 0 :: .int .i32 1 :: sm :: rest') :: r' ∧ Ψ ro' rest' r'))
    (hk : ∀ ro' rest' r', Le ro ro' → Ψ ro' rest' r' → K (.tuple #[]) ro' (.blk b t (z0 :: z1 :: z2 :: z3 :: z4 :: z5 :: z6 :: z7 :: .int .u32 1 :: .int .i32 0 :: sm :: rest') :: r')) :
    Calls Tryz.prog 62 #[.pointer (some ⟨b, 8, none⟩), .func (.func 38) #[] #[ptr' pl]] w (fun e w' => ∃ v, e = .returned v ∧ Post ro K w v w') := by
  have hlock := CallOk.calls Tryz.call81 (show CallOk Tryz.prog 81 #[.pointer (some ⟨b, 9, none⟩)] ro (.blk b t (z0 :: z1 :: z2 :: z3 :: z4 :: z5 :: z6 :: z7 :: .int .u32 0 :: .int .i32 0 :: sm :: rest) :: r) (fun v ro' own' => v = .tuple #[] ∧ ro' = ro ∧ own' = .blk b t (z0 :: z1 :: z2 :: z3 :: z4 :: z5 :: z6 :: z7 :: .int .u32 0 :: .int .i32 1 :: sm :: rest) :: r) by
    refine ilock_ok ?_
    exact ⟨rfl, rfl, rfl⟩) hs
  have hload : ∀ w1 : World, Sat ro (.blk b t (z0 :: z1 :: z2 :: z3 :: z4 :: z5 :: z6 :: z7 :: .int .u32 0 :: .int .i32 1 :: sm :: rest) :: r) w1.heap → Calls Tryz.prog 61 #[.pointer (some ⟨b, 8, none⟩)] w1 (fun e w' => ∃ v, e = .returned v ∧ Post ro (fun v ro' own' => v = .bool false ∧ ro' = ro ∧ own' = .blk b t (z0 :: z1 :: z2 :: z3 :: z4 :: z5 :: z6 :: z7 :: .int .u32 0 :: .int .i32 1 :: sm :: rest) :: r) w1 v w') := fun w1 hs1 =>
    CallOk.calls Tryz.call61 (by
      refine bload_ok (x := 0) (by exact Ld.hasBlk rfl) ?_
      exact ⟨rfl, rfl, rfl⟩) hs1
  have hnot : ∀ (x : Bool) (w : World), (Op.unary .not (.bool x)).run Tryz.prog w = .ok (.bool (!x)) w := fun _ _ => rfl
  have hcl := Tryz.call38
  go_enter_defers Tryz.func62, Tryz.ntmps62
  go_wp2_with (first
    | (go_at_call 81; refine hlock.mono ?_; rintro e w1 ⟨v, rfl, hh1, ro1, own1, hl1, hs1, rfl, rfl, rfl⟩)
    | (go_at_call 61; refine (hload _ (by assumption)).mono ?_; rintro e w2 ⟨v, rfl, hh2, ro2, own2, hl2, hs2, rfl, rfl, rfl⟩)
    | (go_at_call 38; refine (CallOk.calls hcl hfun (by assumption)).mono ?_; rintro e w3 ⟨v, rfl, hh3, ro3, own3, hl3, hs3, rfl, rest', r', rfl, hΨ⟩))
  refine leaves_cons (f := 83) (args := #[.pointer (some ⟨b, 8, none⟩), .bool true]) (by simp) (by simp [go_sem, Tryz.call83]) ?_
  have hst : DefOk Tryz.prog 83 #[.pointer (some ⟨b, 8, none⟩), .bool true] ro3 (.blk b t (z0 :: z1 :: z2 :: z3 :: z4 :: z5 :: z6 :: z7 :: .int .u32 0 :: .int .i32 1 :: sm :: rest') :: r') (fun v ro' own' => v = .tuple #[] ∧ ro' = ro3 ∧ own' = .blk b t (z0 :: z1 :: z2 :: z3 :: z4 :: z5 :: z6 :: z7 :: .int .u32 1 :: .int .i32 1 :: sm :: rest') :: r') := by
    refine bstoreD_ok (.miss _ (.miss _ (.miss _ (.miss _ (.miss _ (.miss _ (.miss _ (.miss _ (.hit _ _ _))))))))) ?_
    exact ⟨rfl, rfl, rfl⟩
  refine (hst.run w3 _ hs3).mono ?_
  rintro e u' w4 ⟨rfl, v, rfl, hh4, ro4, own4, hl4, hs4, rfl, rfl, rfl⟩
  refine leaves_cons (f := 82) (args := #[.pointer (some ⟨b, 9, none⟩)]) (by simp [settle]) (by simp [go_sem, Tryz.call82]) ?_
  have hul : DefOk Tryz.prog 82 #[.pointer (some ⟨b, 9, none⟩)] ro4 (.blk b t (z0 :: z1 :: z2 :: z3 :: z4 :: z5 :: z6 :: z7 :: .int .u32 1 :: .int .i32 1 :: sm :: rest') :: r') (fun v ro' own' => v = .tuple #[] ∧ ro' = ro4 ∧ own' = .blk b t (z0 :: z1 :: z2 :: z3 :: z4 :: z5 :: z6 :: z7 :: .int .u32 1 :: .int .i32 0 :: sm :: rest') :: r') := by
    refine iunlockD_ok ?_
    exact ⟨rfl, rfl, rfl⟩
  refine (hul.run w4 _ hs4).mono ?_
  rintro e u' w5 ⟨rfl, v, rfl, hh5, ro5, own5, hl5, hs5, rfl, rfl, rfl⟩
  have hhp : Hp w5.heap w w5 := ((((hh1.trans hh2).trans hh3).trans hh4).trans hh5)
  have hfin : ∃ v : Value, Ending.returned (.tuple #[]) = Ending.returned v ∧ Post ro2 K w v w5 := ⟨_, rfl, hhp, ro5, _, hl3, hs5, hk _ _ _ hl3 hΨ⟩
  exact ⟨.tuple #[], by simp [results, Tryz.results62], hfin⟩
theorem slow_ok {b pl : Nat} {t : TypeId} {z0 z1 z2 z3 z4 z5 z6 z7 sm : Value} {rest : List Value} {Ψ : Ro → List Value → Chs → Prop}
    (hfun : CallOk Tryz.prog 38 #[ptr' pl] ro (.blk b t (z0 :: z1 :: z2 :: z3 :: z4 :: z5 :: z6 :: z7 :: .int .u32 0 :: .int .i32 1 :: sm :: rest) :: r) (fun v ro' own' => v = .tuple #[] ∧ ∃ rest' r', own' = .blk b t (z0 :: z1 :: z2 :: z3 :: z4 :: z5 :: z6 :: z7 :: .int .u32 0 :: .int .i32 1 :: sm :: rest') :: r' ∧ Ψ ro' rest' r'))
    (hk : ∀ ro' rest' r', Le ro ro' → Ψ ro' rest' r' → K (.tuple #[]) ro' (.blk b t (z0 :: z1 :: z2 :: z3 :: z4 :: z5 :: z6 :: z7 :: .int .u32 1 :: .int .i32 0 :: sm :: rest') :: r')) :
    CallOk Tryz.prog 62 #[.pointer (some ⟨b, 8, none⟩), .func (.func 38) #[] #[ptr' pl]] ro (.blk b t (z0 :: z1 :: z2 :: z3 :: z4 :: z5 :: z6 :: z7 :: .int .u32 0 :: .int .i32 0 :: sm :: rest) :: r) K :=
  ⟨fun w hs => .inl ⟨Tryz.call62 _ w, slow_calls w hs hfun hk⟩⟩
theorem do_first {b pl : Nat} {t : TypeId} {z0 z1 z2 z3 z4 z5 z6 z7 sm : Value} {rest : List Value} {Ψ : Ro → List Value → Chs → Prop}
    (hfun : CallOk Tryz.prog 38 #[ptr' pl] ro (.blk b t (z0 :: z1 :: z2 :: z3 :: z4 :: z5 :: z6 :: z7 :: .int .u32 0 :: .int .i32 1 :: sm :: rest) :: r) (fun v ro' own' => v = .tuple #[] ∧ ∃ rest' r', own' = .blk b t (z0 :: z1 :: z2 :: z3 :: z4 :: z5 :: z6 :: z7 :: .int .u32 0 :: .int .i32 1 :: sm :: rest') :: r' ∧ Ψ ro' rest' r'))
    (hk : ∀ ro' rest' r', Le ro ro' → Ψ ro' rest' r' → K (.tuple #[]) ro' (.blk b t (z0 :: z1 :: z2 :: z3 :: z4 :: z5 :: z6 :: z7 :: .int .u32 1 :: .int .i32 0 :: sm :: rest') :: r')) :
    CallOk Tryz.prog 37 #[.pointer (some ⟨b, 8, none⟩), .func (.func 38) #[] #[ptr' pl]] ro (.blk b t (z0 :: z1 :: z2 :: z3 :: z4 :: z5 :: z6 :: z7 :: .int .u32 0 :: .int .i32 0 :: sm :: rest) :: r) K := by
  refine CallOk.intro (args := [_, _]) (rs := []) T_ok Tryz.func37 Tryz.call37 rfl rfl (by kernel_rfl) rfl rfl ?_
  repeat (first | exact endA | refine wkG ?_ | refine opB (fun b => ?_) | refine opA (fun a' c' hc1 hc2 => ?_) | (show GJ _ _ _ _ _ _ _; first | (apply GJ.and; exact rfl; intro hg) | (apply GJ.or; exact rfl; intro hg) | refine GJ.t omAuto ?_ | refine GJ.f omAuto ?_ | refine GJ.ft omAuto ?_ | refine GJ.ff omAuto ?_))
  refine bload_ok (x := 0) (by exact Ld.hasBlk rfl) ?_
  repeat (first | exact endA | refine wkG ?_ | refine opB (fun b => ?_) | refine opA (fun a' c' hc1 hc2 => ?_) | (show GJ _ _ _ _ _ _ _; first | (apply GJ.and; exact rfl; intro hg) | (apply GJ.or; exact rfl; intro hg) | refine GJ.t omAuto ?_ | refine GJ.f omAuto ?_ | refine GJ.ft omAuto ?_ | refine GJ.ff omAuto ?_))
  refine slow_ok hfun (fun ro' rest' r' hl hΨ => ?_)
  repeat (first | exact endA | refine wkG ?_ | refine opB (fun b => ?_) | refine opA (fun a' c' hc1 hc2 => ?_) | (show GJ _ _ _ _ _ _ _; first | (apply GJ.and; exact rfl; intro hg) | (apply GJ.or; exact rfl; intro hg) | refine GJ.t omAuto ?_ | refine GJ.f omAuto ?_ | refine GJ.ft omAuto ?_ | refine GJ.ff omAuto ?_))
  exact Wk.id (hk _ _ _ hl hΨ)
end
end Go.Proofs.YtinbmhbfcoiefaaGreatDoor
end
section
/- Contracts of dfa: Of, Later, Auto, Counts. -/
namespace Go.Proofs.YtinbmhbfcoiefaaGreatDoor
open Go Go.E
set_option linter.unusedVariables false
set_option linter.unusedSimpArgs false
set_option maxRecDepth 10000
/-- Why there is no automaton of an expression (0: there is one), and it. -/
def lstE (n : RgD) : Nat := if (makeN n).1 ≠ 0 then (makeN n).1 else (makeA (makeN n).2).1
def lstD (n : RgD) : DfaA := leastA (makeA (makeN n).2).2
/-- What Of tells first. -/
def OfP (ro : Ro) (n : RgD) (P : Value) : Prop := (lstE n ≠ 0 ∧ P = .pointer none) ∨ (lstE n = 0 ∧ ∃ p, P = ptr' p ∧ DAt ro p (lstD n))
theorem make_check {n : RgD} (h : (makeN n).1 = 0) : (checkD n 512).1 = 0 := by
  unfold makeN at h
  split at h
  · rename_i h1; exact absurd h h1
  · rename_i h1; exact Decidable.of_not_not h1
theorem make_size {n : RgD} (h : (makeN n).1 = 0) : wrongD n = 0 ∧ (setsN (makeN n).2.rows).length ≤ 1000 := by
  obtain ⟨h1, h2, _⟩ := check_zero n 512 (make_check h)
  have := sets_len n
  exact ⟨h1, by omega⟩
section
variable {ro : Ro} {own r : Chs} {K : Value → Ro → Chs → Prop} {g : Chunk → Chs}
theorem dof_ok {n : RgD} {v : List Value} (ht : TabOk ro) (hv : RgOk ro n v) (hk : ∀ ro' P, Le ro ro' → OfP ro' n P → K (.tuple #[P, .int .i64 (lstE n : Int)]) ro' own) :
    CallOk Tryz.prog 20 #[.agg v.toArray] ro own K := by
  have hin := rg_ins hv
  obtain ⟨a1, c1, hvc⟩ := hv.cells
  have hv0 := hv
  subst hvc
  have hK := make_k hin
  refine CallOk.intro (args := [_]) (rs := [_, _]) T_ok Tryz.func20 Tryz.call20 rfl rfl (by kernel_rfl) rfl rfl ?_
  repeat (first | exact endA | refine wkP ?_ | refine opB (fun b => ?_) | refine opA (fun a' c' hc1 hc2 => ?_) | (apply GJ.and; exact rfl; intro hg) | (apply GJ.or; exact rfl; intro hg))
  refine nmake_ok hv0 (fun ro2 v2 hl2 hA => ?_)
  have hA0 := hA
  have hE : lstE n = if (makeN n).1 ≠ 0 then (makeN n).1 else (makeA (makeN n).2).1 := rfl
  have hD : lstD n = leastA (makeA (makeN n).2).2 := rfl
  by_cases h1 : (makeN n).1 = 0
  · obtain ⟨hw, hsl⟩ := make_size h1
    rw [if_neg (by rw [h1]; decide)] at hE
    rw [h1]
    obtain ⟨ad, cp, hs, rfl, hrs, hrw⟩ := hA
    repeat (first | exact endA | refine wkP ?_ | refine opB (fun b => ?_) | refine opA (fun a' c' hc1 hc2 => ?_) | (apply GJ.and; exact rfl; intro hg) | (apply GJ.or; exact rfl; intro hg))
    refine dmake_ok hA0 hK (ht.le hl2) hsl (fun h2 ro3 hl3 => ?_) (fun h2 ro3 p hl3 hp => ?_)
    · rw [← hE] at h2 ⊢
      repeat (first | exact endA | refine wkP ?_ | refine opB (fun b => ?_) | refine opA (fun a' c' hc1 hc2 => ?_) | (apply GJ.and; exact rfl; intro hg) | (apply GJ.or; exact rfl; intro hg))
      exact Wk.outS Sup.auto (.refl _) (hk ro3 _ (hl2.trans hl3) (.inl ⟨h2, rfl⟩))
    · have hm := (made_a2 hK.ok.to hK.sets h2).1
      obtain ⟨w, hw6, ho, hs⟩ := hm.ok
      repeat (first | exact endA | refine wkP ?_ | refine opB (fun b => ?_) | refine opA (fun a' c' hc1 hc2 => ?_) | (apply GJ.and; exact rfl; intro hg) | (apply GJ.or; exact rfl; intro hg))
      refine dleast_ok hp ho hs hw6 hm.pos hm.le (fun ro4 p4 hl4 hp4 => ?_)
      rw [← hD] at hp4
      repeat (first | exact endA | refine wkP ?_ | refine opB (fun b => ?_) | refine opA (fun a' c' hc1 hc2 => ?_) | (apply GJ.and; exact rfl; intro hg) | (apply GJ.or; exact rfl; intro hg))
      have h0 : lstE n = 0 := hE.trans h2
      have := hk ro4 (ptr' p4) ((hl2.trans hl3).trans hl4) (.inr ⟨h0, p4, rfl, hp4⟩)
      rw [h0] at this
      exact Wk.outS Sup.auto (.refl _) this
  · rw [if_pos h1] at hE
    have h2 : lstE n ≠ 0 := by rw [hE]; exact h1
    obtain ⟨ad, cp, hs, rfl, hrs, hrw⟩ := hA
    rw [← hE]
    repeat (first | exact endA | refine wkP ?_ | refine opB (fun b => ?_) | refine opA (fun a' c' hc1 hc2 => ?_) | (apply GJ.and; exact rfl; intro hg) | (apply GJ.or; exact rfl; intro hg))
    exact Wk.outS Sup.auto (.refl _) (hk ro2 _ hl2 (.inl ⟨h2, rfl⟩))
theorem later_ok {n : RgD} {a : Option Addr} {c : Nat} (hk : ∀ q, K (ptr' q) ro (.blk q 97 [.int .i64 n.kind, wV n.set.a, wV n.set.b, wV n.set.c, wV n.set.d, .slice a n.kids.length c, .int .i64 n.min, .int .i64 n.max, .int .u32 0, .int .i32 0, .int .u32 0, .pointer none, .int .i64 0, .int .i64 0, .int .i32 0] :: own)) :
    CallOk Tryz.prog 21 #[.agg (nodeV n.kind n.set a n.kids.length c n.min n.max).toArray] ro own K := by
  refine CallOk.intro (args := [_]) (rs := [_]) T_ok Tryz.func21 Tryz.call21 rfl rfl (by kernel_rfl) rfl rfl ?_
  repeat (first | exact endA | refine wkP ?_ | refine opB (fun b => ?_) | refine opA (fun a' c' hc1 hc2 => ?_) | (apply GJ.and; exact rfl; intro hg) | (apply GJ.or; exact rfl; intro hg))
  exact Wk.outS Sup.auto (.refl _) (hk _)
theorem iadd64_ok {b o : Nat} {t : TypeId} {cs : List Value} {x : Int} [hb : HasBlk own b t cs g] (hx : cs[o]? = some (.int .i64 x)) (hr : 0 ≤ x ∧ x ≤ 1000000) (hk : K (.int .i64 (x + 1)) ro (g (.blk b t (cs.set o (.int .i64 (x + 1)))))) :
    CallOk Tryz.prog 36 #[.pointer (some ⟨b, o, none⟩), .int .i64 1] ro own K := by
  refine CallOk.intro (args := [_, _]) (rs := [_]) T_ok Tryz.func36 Tryz.call36 rfl rfl (by kernel_rfl) rfl rfl ?_
  repeat (first | exact endA | refine wkP ?_ | refine opB (fun b => ?_) | refine opA (fun a' c' hc1 hc2 => ?_) | (apply GJ.and; exact rfl; intro hg) | (apply GJ.or; exact rfl; intro hg))
  refine CallOk.aaddAt Tryz.func60 (by kernel_rfl) (by kernel_rfl) (by kernel_rfl) .i64 (by kernel_rfl) (s := x + 1) hx (by simp [IntKind.wrap, IntKind.bits, IntKind.signed]; omega) ?_
  repeat (first | exact endA | refine wkP ?_ | refine opB (fun b => ?_) | refine opA (fun a' c' hc1 hc2 => ?_) | (apply GJ.and; exact rfl; intro hg) | (apply GJ.or; exact rfl; intro hg))
  exact Wk.id hk
theorem iadd32_ok {b o : Nat} {t : TypeId} {cs : List Value} {x : Int} [hb : HasBlk own b t cs g] (hx : cs[o]? = some (.int .i32 x)) (hr : 0 ≤ x ∧ x ≤ 1000000) (hk : K (.int .i32 (x + 1)) ro (g (.blk b t (cs.set o (.int .i32 (x + 1)))))) :
    CallOk Tryz.prog 39 #[.pointer (some ⟨b, o, none⟩), .int .i32 1] ro own K := by
  refine CallOk.intro (args := [_, _]) (rs := [_]) T_ok Tryz.func39 Tryz.call39 rfl rfl (by kernel_rfl) rfl rfl ?_
  repeat (first | exact endA | refine wkP ?_ | refine opB (fun b => ?_) | refine opA (fun a' c' hc1 hc2 => ?_) | (apply GJ.and; exact rfl; intro hg) | (apply GJ.or; exact rfl; intro hg))
  refine CallOk.aaddAt Tryz.func63 (by kernel_rfl) (by kernel_rfl) (by kernel_rfl) .i32 (by kernel_rfl) (s := x + 1) hx (by simp [IntKind.wrap, IntKind.bits, IntKind.signed]; omega) ?_
  repeat (first | exact endA | refine wkP ?_ | refine opB (fun b => ?_) | refine opA (fun a' c' hc1 hc2 => ?_) | (apply GJ.and; exact rfl; intro hg) | (apply GJ.or; exact rfl; intro hg))
  exact Wk.id hk
theorem iload32_ok {b o : Nat} {x : Int} (hl : Ld ro own b o (.int .i32 x)) (hk : K (.int .i32 x) ro own) : CallOk Tryz.prog 35 #[.pointer (some ⟨b, o, none⟩)] ro own K := by
  refine CallOk.intro (args := [_]) (rs := [_]) T_ok Tryz.func35 Tryz.call35 rfl rfl (by kernel_rfl) rfl rfl ?_
  repeat (first | exact endA | refine wkP ?_ | refine opB (fun b => ?_) | refine opA (fun a' c' hc1 hc2 => ?_) | (apply GJ.and; exact rfl; intro hg) | (apply GJ.or; exact rfl; intro hg))
  refine CallOk.aload Tryz.func59 (by kernel_rfl) (by kernel_rfl) (by kernel_rfl) .i32 (by kernel_rfl) (x := x) (by simpa using hl) ?_
  repeat (first | exact endA | refine wkP ?_ | refine opB (fun b => ?_) | refine opA (fun a' c' hc1 hc2 => ?_) | (apply GJ.and; exact rfl; intro hg) | (apply GJ.or; exact rfl; intro hg))
  exact Wk.id hk
theorem iload64_ok {b o : Nat} {x : Int} (hl : Ld ro own b o (.int .i64 x)) (hk : K (.int .i64 x) ro own) : CallOk Tryz.prog 34 #[.pointer (some ⟨b, o, none⟩)] ro own K := by
  refine CallOk.intro (args := [_]) (rs := [_]) T_ok Tryz.func34 Tryz.call34 rfl rfl (by kernel_rfl) rfl rfl ?_
  repeat (first | exact endA | refine wkP ?_ | refine opB (fun b => ?_) | refine opA (fun a' c' hc1 hc2 => ?_) | (apply GJ.and; exact rfl; intro hg) | (apply GJ.or; exact rfl; intro hg))
  refine CallOk.aload Tryz.func58 (by kernel_rfl) (by kernel_rfl) (by kernel_rfl) .i64 (by kernel_rfl) (x := x) (by simpa using hl) ?_
  repeat (first | exact endA | refine wkP ?_ | refine opB (fun b => ?_) | refine opA (fun a' c' hc1 hc2 => ?_) | (apply GJ.and; exact rfl; intro hg) | (apply GJ.or; exact rfl; intro hg))
  exact Wk.id hk
theorem counts_ok {q : Nat} {z0 z1 z2 z3 z4 z5 z6 z7 d s sm P : Value} {e x y : Int} (hy : 0 ≤ y ∧ y ≤ 1000000) (hk : K (.tuple #[.int .i64 x, .int .i64 y]) ro (.blk q 97 [z0, z1, z2, z3, z4, z5, z6, z7, d, s, sm, P, .int .i64 e, .int .i64 x, .int .i32 y] :: own)) :
    CallOk Tryz.prog 22 #[ptr' q] ro (.blk q 97 [z0, z1, z2, z3, z4, z5, z6, z7, d, s, sm, P, .int .i64 e, .int .i64 x, .int .i32 y] :: own) K := by
  refine CallOk.intro (args := [_]) (rs := [_, _]) T_ok Tryz.func22 Tryz.call22 rfl rfl (by kernel_rfl) rfl rfl ?_
  repeat (first | exact endA | refine wkP ?_ | refine opB (fun b => ?_) | refine opA (fun a' c' hc1 hc2 => ?_) | (apply GJ.and; exact rfl; intro hg) | (apply GJ.or; exact rfl; intro hg))
  refine iload64_ok (x := x) (by exact Ld.hasBlkAt rfl) ?_
  repeat (first | exact endA | refine wkP ?_ | refine opB (fun b => ?_) | refine opA (fun a' c' hc1 hc2 => ?_) | (apply GJ.and; exact rfl; intro hg) | (apply GJ.or; exact rfl; intro hg))
  refine iload32_ok (x := y) (by exact Ld.hasBlkAt rfl) ?_
  repeat (first | exact endA | refine wkP ?_ | refine opB (fun b => ?_) | refine opA (fun a' c' hc1 hc2 => ?_) | (apply GJ.and; exact rfl; intro hg) | (apply GJ.or; exact rfl; intro hg))
  rw [show IntKind.i64.wrap y = y from wrap_i64 (by omega)]
  exact Wk.outS Sup.auto (.refl _) hk
/-- The closure of Auto: the automaton is made. -/
theorem auto1_ok {n : RgD} {a : Option Addr} {c q pl : Nat} {d s sm : Value} {x : Int} (ht : TabOk ro) (hv : RgOk ro n (nodeV n.kind n.set a n.kids.length c n.min n.max))
    (hk : ∀ ro' P, Le ro ro' → OfP ro' n P → K (.tuple #[]) ro' (.blk q 97 [.int .i64 n.kind, wV n.set.a, wV n.set.b, wV n.set.c, wV n.set.d, .slice a n.kids.length c, .int .i64 n.min, .int .i64 n.max, d, s, sm, P, .int .i64 (lstE n : Int), .int .i64 x, .int .i32 1] :: .blk pl 56 [ptr' q] :: own)) :
    CallOk Tryz.prog 38 #[ptr' pl] ro (.blk q 97 [.int .i64 n.kind, wV n.set.a, wV n.set.b, wV n.set.c, wV n.set.d, .slice a n.kids.length c, .int .i64 n.min, .int .i64 n.max, d, s, sm, .pointer none, .int .i64 0, .int .i64 x, .int .i32 0] :: .blk pl 56 [ptr' q] :: own) K := by
  refine CallOk.intro (args := [_]) (rs := []) T_ok Tryz.func38 Tryz.call38 rfl rfl (by kernel_rfl) rfl rfl ?_
  repeat (first | exact endA | refine wkN ?_ | refine Bs.all ?_ | (show QOk _ _ _ _ _ _ _; refine QOk.build rfl rfl Nf.auto ?_) | refine opB (fun b => ?_) | refine opA (fun a' c' hc1 hc2 => ?_) | (show GJ _ _ _ _ _ _ _; first | refine GJ.t (by decide) ?_ | refine GJ.f (by decide) ?_ | refine GJ.ft (by decide) ?_ | refine GJ.ff (by decide) ?_) | (show Br _ _ _; first | refine Br.t (by decide) ?_ | refine Br.f (by decide) ?_) | (apply GJ.and; exact rfl; intro hg) | (apply GJ.or; exact rfl; intro hg))
  refine CodeOk.drawn [.look 0, .look 1, .look 2, .look 3, .look 4, .keep 5, .keep 6, .look 7, .look 8, .look 9, .look 10, .look 11, .keep 12, .look 13, .look 14, .keep 15] rfl (by kernel_rfl) (by rfl) (by kernel_rfl) ?_
  refine Stop.mk ?_
  refine Bs.mk ⟨[.blk pl 56 [ptr' q]], Sup.auto, ?_⟩
  repeat (first | exact endA | refine wkU ?_ | (show QOk _ _ _ _ _ _ _; refine QOk.build rfl rfl Nf.auto ?_) | (show GJ _ _ _ _ _ _ _; first | with_reducible refine GJ.neF ?_ | with_reducible refine GJ.neT ?_) | (show Br _ _ _; with_reducible refine Br.ne ?_) | refine opB (fun b => ?_) | refine opA (fun a' c' hc1 hc2 => ?_) | (apply GJ.and; exact rfl; intro hg) | (apply GJ.or; exact rfl; intro hg))
  refine dof_ok ht hv (fun ro' P hl hp => ?_)
  repeat (first | exact endA | refine wkU ?_ | (show QOk _ _ _ _ _ _ _; refine QOk.build rfl rfl Nf.auto ?_) | (show GJ _ _ _ _ _ _ _; first | with_reducible refine GJ.neF ?_ | with_reducible refine GJ.neT ?_) | (show Br _ _ _; with_reducible refine Br.ne ?_) | refine opB (fun b => ?_) | refine opA (fun a' c' hc1 hc2 => ?_) | (apply GJ.and; exact rfl; intro hg) | (apply GJ.or; exact rfl; intro hg))
  obtain ⟨o, rfl⟩ : ∃ o, P = .pointer o := by
    rcases hp with ⟨h1, rfl⟩ | ⟨h1, p, rfl, h3⟩ <;> exact ⟨_, rfl⟩
  repeat (first | exact endA | refine wkU ?_ | (show QOk _ _ _ _ _ _ _; refine QOk.build rfl rfl Nf.auto ?_) | (show GJ _ _ _ _ _ _ _; first | with_reducible refine GJ.neF ?_ | with_reducible refine GJ.neT ?_) | (show Br _ _ _; with_reducible refine Br.ne ?_) | refine opB (fun b => ?_) | refine opA (fun a' c' hc1 hc2 => ?_) | (apply GJ.and; exact rfl; intro hg) | (apply GJ.or; exact rfl; intro hg))
  refine iadd32_ok (x := 0) rfl (by omega) ?_
  repeat (first | exact endA | refine wkP ?_ | refine opB (fun b => ?_) | refine opA (fun a' c' hc1 hc2 => ?_) | (apply GJ.and; exact rfl; intro hg) | (apply GJ.or; exact rfl; intro hg))
  exact Wk.outS Sup.auto (.refl _) (hk ro' _ hl hp)
/-- A Lazy's cells: not made yet. -/
def lz0 (n : RgD) (a : Option Addr) (c : Nat) (x : Int) : List Value := [.int .i64 n.kind, wV n.set.a, wV n.set.b, wV n.set.c, wV n.set.d, .slice a n.kids.length c, .int .i64 n.min, .int .i64 n.max, .int .u32 0, .int .i32 0, .int .u32 0, .pointer none, .int .i64 0, .int .i64 x, .int .i32 0]
/-- A Lazy's cells: made. -/
def lz1 (n : RgD) (a : Option Addr) (c : Nat) (x : Int) (P : Value) : List Value := [.int .i64 n.kind, wV n.set.a, wV n.set.b, wV n.set.c, wV n.set.d, .slice a n.kids.length c, .int .i64 n.min, .int .i64 n.max, .int .u32 1, .int .i32 0, .int .u32 0, P, .int .i64 (lstE n : Int), .int .i64 x, .int .i32 1]
theorem lauto0_ok {n : RgD} {a : Option Addr} {c q : Nat} {x : Int} (ht : TabOk ro) (hv : RgOk ro n (nodeV n.kind n.set a n.kids.length c n.min n.max)) (hx : 0 ≤ x ∧ x ≤ 1000000)
    (hk : ∀ ro' P, Le ro ro' → OfP ro' n P → K (.tuple #[P, .int .i64 (lstE n : Int)]) ro' (.blk q 97 (lz1 n a c (x + 1) P) :: own)) :
    CallOk Tryz.prog 23 #[ptr' q] ro (.blk q 97 (lz0 n a c x) :: own) K := by
  dsimp only [lz0, lz1] at hk ⊢
  refine CallOk.intro (args := [_]) (rs := [_, _]) T_ok Tryz.func23 Tryz.call23 rfl rfl (by kernel_rfl) rfl rfl ?_
  repeat (first | exact endA | refine wkP ?_ | refine opB (fun b => ?_) | refine opA (fun a' c' hc1 hc2 => ?_) | (apply GJ.and; exact rfl; intro hg) | (apply GJ.or; exact rfl; intro hg))
  refine iadd64_ok (x := x) rfl hx ?_
  dsimp only [List.set]
  repeat (first | exact endA | refine wkP ?_ | refine opB (fun b => ?_) | refine opA (fun a' c' hc1 hc2 => ?_) | (apply GJ.and; exact rfl; intro hg) | (apply GJ.or; exact rfl; intro hg))
  refine CallOk.perm (.swap _ _ _) ?_
  refine do_first (rest := [.pointer none, .int .i64 0, .int .i64 (x + 1), .int .i32 0]) (Ψ := fun ro' rest' r' => ∃ P, Le ro ro' ∧ OfP ro' n P ∧ rest' = [P, .int .i64 (lstE n : Int), .int .i64 (x + 1), .int .i32 1] ∧ r' = .blk b 56 [ptr' q] :: own) (auto1_ok ht hv (fun ro' P hl hp => ⟨rfl, _, _, rfl, P, hl, hp, rfl, rfl⟩)) ?_
  rintro ro' rest' r' hl ⟨P, hl2, hp, rfl, rfl⟩
  obtain ⟨o, rfl⟩ : ∃ o, P = .pointer o := by
    rcases hp with ⟨h1, rfl⟩ | ⟨h1, p, rfl, h3⟩ <;> exact ⟨_, rfl⟩
  repeat (first | exact endA | refine wkP ?_ | refine opB (fun b => ?_) | refine opA (fun a' c' hc1 hc2 => ?_) | (apply GJ.and; exact rfl; intro hg) | (apply GJ.or; exact rfl; intro hg))
  exact Wk.outS Sup.auto (.refl _) (hk ro' _ hl hp)
end
end Go.Proofs.YtinbmhbfcoiefaaGreatDoor
end
section
/- Contracts of dfa's laws: few, made. -/
namespace Go.Proofs.YtinbmhbfcoiefaaGreatDoor
open Go Go.E
set_option linter.unusedVariables false
set_option linter.unusedSimpArgs false
set_option maxRecDepth 10000
structure Fw8C (n : RgD) : Prop where
  run : ∀ {ro : Ro} {r : Chs} {K : Value → Ro → Chs → Prop} {p : Nat} {v : List Value} {M : Int}, RgOk ro n v → 0 ≤ M → M ≤ 100000 → K (.bool (fewX 4 5 n M).1) ro (.blk p 3 [.int .i64 (fewX 4 5 n M).2] :: r) →
    CallOk Tryz.prog 19 #[.agg v.toArray, ptr' p] ro (.blk p 3 [.int .i64 M] :: r) K
set_option maxHeartbeats 16000000 in
theorem fw8C : ∀ n, Fw8C n := RgD.ind fun k z l x y ih => ⟨fun {ro r K p v M} hv hM hM2 hk => by
  rw [RgOk] at hv
  obtain ⟨ad, cp, cs, rfl, hs, hrs, hks⟩ := hv
  have hle := hrs.le
  have hmx := hrs.max
  unfold maxLen at hmx
  rw [fewX] at hk
  dsimp only at hk
  by_cases h0 : M - 1 < 0
  · rw [if_pos (.inl (.inl h0))] at hk
    refine CallOk.intro (args := [_, _]) (rs := [_]) T_ok Tryz.func19 Tryz.call19 rfl rfl (by kernel_rfl) rfl rfl ?_
    repeat (first | exact endA | refine wkP ?_ | refine opB (fun b => ?_) | refine opA (fun a' c' hc1 hc2 => ?_) | (apply GJ.and; exact rfl; intro hg) | (apply GJ.or; exact rfl; intro hg))
    exact Wk.outS Sup.auto (.refl _) hk
  by_cases h100 : 30 < l.length
  · rw [if_pos (.inl (.inr h100))] at hk
    refine CallOk.intro (args := [_, _]) (rs := [_]) T_ok Tryz.func19 Tryz.call19 rfl rfl (by kernel_rfl) rfl rfl ?_
    repeat (first | exact endA | refine wkP ?_ | refine opB (fun b => ?_) | refine opA (fun a' c' hc1 hc2 => ?_) | (apply GJ.and; exact rfl; intro hg) | (apply GJ.or; exact rfl; intro hg))
    exact Wk.outS Sup.auto (.refl _) hk
  by_cases hk5 : k = 5 ∧ (4 < x ∨ 5 < y)
  · rw [if_pos (.inr hk5)] at hk
    obtain ⟨rfl, hk6⟩ := hk5
    by_cases hx6 : 4 < x
    · refine CallOk.intro (args := [_, _]) (rs := [_]) T_ok Tryz.func19 Tryz.call19 rfl rfl (by kernel_rfl) rfl rfl ?_
      repeat (first | exact endA | refine wkP ?_ | refine opB (fun b => ?_) | refine opA (fun a' c' hc1 hc2 => ?_) | (apply GJ.and; exact rfl; intro hg) | (apply GJ.or; exact rfl; intro hg))
      exact Wk.outS Sup.auto (.refl _) hk
    · have hy8 : 5 < y := hk6.resolve_left hx6
      refine CallOk.intro (args := [_, _]) (rs := [_]) T_ok Tryz.func19 Tryz.call19 rfl rfl (by kernel_rfl) rfl rfl ?_
      repeat (first | exact endA | refine wkP ?_ | refine opB (fun b => ?_) | refine opA (fun a' c' hc1 hc2 => ?_) | (apply GJ.and; exact rfl; intro hg) | (apply GJ.or; exact rfl; intro hg))
      exact Wk.outS Sup.auto (.refl _) hk
  rw [if_neg (fun z => z.elim (fun u => u.elim h0 h100) hk5)] at hk
  refine CallOk.intro (args := [_, _]) (rs := [_]) T_ok Tryz.func19 Tryz.call19 rfl rfl (by kernel_rfl) rfl rfl ?_
  repeat (first | exact endA | refine wkP ?_ | refine opB (fun b => ?_) | refine opA (fun a' c' hc1 hc2 => ?_) | (apply GJ.and; exact rfl; intro hg) | (apply GJ.or; exact rfl; intro hg))
  refine LoopOk.at (ι := Nat × Int) Keep.auto (fun (i, Mi) => [(40, .int .i64 (i : Int))]) (fun (i, Mi) => .blk p 3 [.int .i64 Mi] :: r) (fun (i, Mi) => i ≤ l.length ∧ 0 ≤ Mi ∧ Mi ≤ M - 1 ∧ fewY 4 5 l (M - 1) = fewY 4 5 (l.drop i) Mi) (fun (i, Mi) => l.length - i) (0, M - 1) ?_ Sub.auto Sup.auto ?_
  · exact ⟨Nat.zero_le _, by omega, Int.le_refl _, by simp⟩
  rintro ⟨i, Mi⟩ ⟨i1, i2, i3, i4⟩
  dsimp only [List.cons_append, List.nil_append] at i1 i2 i3 i4 ⊢
  by_cases hi : i < l.length
  · obtain ⟨kd, hkd⟩ : ∃ kd, l[i]? = some kd := ⟨_, List.getElem?_eq_getElem hi⟩
    have hvv := hks.get hkd
    obtain ⟨ak, ck, hvk⟩ := hvv.cells
    rw [hvk] at hvv
    have hdr : l.drop i = kd :: l.drop (i + 1) := by
      rw [List.drop_eq_getElem_cons hi]
      congr 1
      rw [List.getElem?_eq_getElem hi] at hkd
      exact Option.some.inj hkd
    rw [hdr, fewY] at i4
    dsimp only at i4
    have hleft := fewX_left (mn := 4) (mx := 5) kd Mi
    repeat (first | exact endA | refine wkP ?_ | refine opB (fun b => ?_) | refine opA (fun a' c' hc1 hc2 => ?_) | (apply GJ.and; exact rfl; intro hg) | (apply GJ.or; exact rfl; intro hg))
    rw [Int.toNat_natCast]
    refine OpOk.loadRow rfl rfl (LdN.at hrs hvk) rfl ?_
    repeat (first | exact endA | refine wkP ?_ | refine opB (fun b => ?_) | refine opA (fun a' c' hc1 hc2 => ?_) | (apply GJ.and; exact rfl; intro hg) | (apply GJ.or; exact rfl; intro hg))
    refine CallOk.sup (own0 := .blk p 3 [.int .i64 Mi] :: r) Sup.auto ?_
    refine (ih kd (List.mem_of_getElem? hkd)).run hvv i2 (by omega) ?_
    generalize fewX 4 5 kd Mi = R at i4 hleft ⊢
    obtain ⟨R1, R2⟩ := R
    dsimp only at i4 hleft ⊢
    cases R1 with
    | true =>
      rw [if_pos rfl] at i4
      obtain ⟨h5, h6⟩ := hleft rfl
      repeat (first | exact endA | refine wkP ?_ | refine opB (fun b => ?_) | refine opA (fun a' c' hc1 hc2 => ?_) | (apply GJ.and; exact rfl; intro hg) | (apply GJ.or; exact rfl; intro hg))
      refine Wk.id ⟨(i + 1, R2), ⟨rfl, ?_⟩, ?_, Sub.auto, Sup.auto⟩
      all_goals try dsimp only
      · exact ⟨by omega, h5, by omega, i4⟩
      · omega
    | false =>
      rw [if_neg (by decide)] at i4
      rw [i4] at hk
      repeat (first | exact endA | refine wkP ?_ | refine opB (fun b => ?_) | refine opA (fun a' c' hc1 hc2 => ?_) | (apply GJ.and; exact rfl; intro hg) | (apply GJ.or; exact rfl; intro hg))
      exact Wk.outS Sup.auto (.refl _) hk
  · obtain rfl : i = l.length := by omega
    rw [List.drop_length, fewY] at i4
    dsimp only at i4
    rw [i4] at hk
    repeat (first | exact endA | refine wkP ?_ | refine opB (fun b => ?_) | refine opA (fun a' c' hc1 hc2 => ?_) | (apply GJ.and; exact rfl; intro hg) | (apply GJ.or; exact rfl; intro hg))
    exact Wk.outS Sup.auto (.refl _) hk⟩
/-- Is there an automaton (made)? -/
def mdB (n : RgD) : Prop := (fewX 4 5 n 16).1 = true ∧ (makeN n).1 = 0 ∧ (makeA (makeN n).2).1 = 0
section
variable {ro : Ro} {own r : Chs} {K : Value → Ro → Chs → Prop} {g : Chunk → Chs}
theorem dmade_ok {n : RgD} {v : List Value} (ht : TabOk ro) (hv : RgOk ro n v)
    (hk0 : ∀ ro', Le ro ro' → ¬ mdB n → K (.tuple #[.pointer none, .pointer none, .bool false]) ro' own)
    (hk1 : ∀ ro' p q, Le ro ro' → mdB n → DAt ro' p (makeA (makeN n).2).2 → DAt ro' q (lstD n) → K (.tuple #[ptr' p, ptr' q, .bool true]) ro' own) :
    CallOk Tryz.prog 9 #[.agg v.toArray] ro own K := by
  have hin := rg_ins hv
  obtain ⟨a1, c1, hvc⟩ := hv.cells
  have hv0 := hv
  subst hvc
  have hK := make_k hin
  refine CallOk.intro (args := [_]) (rs := [_, _, _]) T_ok Tryz.func9 Tryz.call9 rfl rfl (by kernel_rfl) rfl rfl ?_
  repeat (first | exact endA | refine wkP ?_ | refine opB (fun b => ?_) | refine opA (fun a' c' hc1 hc2 => ?_) | (apply GJ.and; exact rfl; intro hg) | (apply GJ.or; exact rfl; intro hg))
  refine (fw8C n).run hv0 (by decide) (by decide) ?_
  by_cases hf : (fewX 4 5 n 16).1 = true
  · rw [hf]
    repeat (first | exact endA | refine wkP ?_ | refine opB (fun b => ?_) | refine opA (fun a' c' hc1 hc2 => ?_) | (apply GJ.and; exact rfl; intro hg) | (apply GJ.or; exact rfl; intro hg))
    refine nmake_ok hv0 (fun ro2 v2 hl2 hA => ?_)
    have hA0 := hA
    by_cases h1 : (makeN n).1 = 0
    · obtain ⟨hw, hsl⟩ := make_size h1
      rw [h1]
      obtain ⟨ad, cp, hs, rfl, hrs, hrw⟩ := hA
      repeat (first | exact endA | refine wkP ?_ | refine opB (fun b => ?_) | refine opA (fun a' c' hc1 hc2 => ?_) | (apply GJ.and; exact rfl; intro hg) | (apply GJ.or; exact rfl; intro hg))
      refine dmake_ok hA0 hK (ht.le hl2) hsl (fun h2 ro3 hl3 => ?_) (fun h2 ro3 p hl3 hp => ?_)
      · repeat (first | exact endA | refine wkP ?_ | refine opB (fun b => ?_) | refine opA (fun a' c' hc1 hc2 => ?_) | (apply GJ.and; exact rfl; intro hg) | (apply GJ.or; exact rfl; intro hg))
        exact Wk.outS Sup.auto (.refl _) (hk0 ro3 (hl2.trans hl3) (fun h => h2 h.2.2))
      · have hm := (made_a2 hK.ok.to hK.sets h2).1
        obtain ⟨w, hw6, ho, hs⟩ := hm.ok
        repeat (first | exact endA | refine wkP ?_ | refine opB (fun b => ?_) | refine opA (fun a' c' hc1 hc2 => ?_) | (apply GJ.and; exact rfl; intro hg) | (apply GJ.or; exact rfl; intro hg))
        refine dleast_ok hp ho hs hw6 hm.pos hm.le (fun ro4 p4 hl4 hp4 => ?_)
        repeat (first | exact endA | refine wkP ?_ | refine opB (fun b => ?_) | refine opA (fun a' c' hc1 hc2 => ?_) | (apply GJ.and; exact rfl; intro hg) | (apply GJ.or; exact rfl; intro hg))
        exact Wk.outS Sup.auto (.refl _) (hk1 ro4 p p4 ((hl2.trans hl3).trans hl4) ⟨hf, h1, h2⟩ (hp.le hl4) hp4)
    · have hz : (makeN n).1 ≠ 0 := h1
      obtain ⟨ad, cp, hs, rfl, hrs, hrw⟩ := hA
      repeat (first | exact endA | refine wkP ?_ | refine opB (fun b => ?_) | refine opA (fun a' c' hc1 hc2 => ?_) | (apply GJ.and; exact rfl; intro hg) | (apply GJ.or; exact rfl; intro hg))
      exact Wk.outS Sup.auto (.refl _) (hk0 ro2 hl2 (fun h => h1 h.2.1))
  · rw [Bool.not_eq_true] at hf
    rw [hf]
    repeat (first | exact endA | refine wkP ?_ | refine opB (fun b => ?_) | refine opA (fun a' c' hc1 hc2 => ?_) | (apply GJ.and; exact rfl; intro hg) | (apply GJ.or; exact rfl; intro hg))
    exact Wk.outS Sup.auto (.refl _) (hk0 ro (Le.refl _) (fun h => Bool.noConfusion (hf.symm.trans h.1)))
end
end Go.Proofs.YtinbmhbfcoiefaaGreatDoor
end
section
/- Contracts of dfa's laws: makes (the automaton of some as and a b). -/
namespace Go.Proofs.YtinbmhbfcoiefaaGreatDoor
open Go Go.E
set_option linter.unusedVariables false
set_option linter.unusedSimpArgs false
set_option maxRecDepth 10000
def abT : List UInt8 := [97, 43, 98]
def abD : RgD := (parseD abT).1
theorem ab_ok : (parseD abT).2 = (0, 0) := by kernel_rfl
theorem ab_make : (makeN abD).1 = 0 := by kernel_rfl
theorem ab_makeA : (makeA (makeN abD).2).1 = 0 := by kernel_rfl
theorem ab_e : lstE abD = 0 := by
  unfold lstE
  rw [ab_make, if_neg (by decide)]
  exact ab_makeA
theorem ab_len : (lstD abD).next.length = 3 := by kernel_rfl
theorem ab_width : widthA (lstD abD) = 3 := by kernel_rfl
theorem ab_m1 : matchA (lstD abD) [97, 97, 98] = true := by kernel_rfl
theorem ab_m2 : matchA (lstD abD) [97, 97, 98, 98] = false := by kernel_rfl
theorem ab_s1 : stepA (lstD abD) 0 98 = -1 := by kernel_rfl
theorem ab_s2 : stepA (lstD abD) 0 97 = 1 := by kernel_rfl
theorem ab_e1 : endsA (lstD abD) 2 = true := by kernel_rfl
theorem ab_e2 : endsA (lstD abD) (-1) = false := by kernel_rfl
/-- What is known of an expression's least automaton. -/
theorem lst_least {n : RgD} {v : List Value} {ro : Ro} (hv : RgOk ro n v) (h : lstE n = 0) : LeastA (lstD n) ∧ MadeA (makeA (makeN n).2).2 := by
  have hK := make_k (rg_ins hv)
  unfold lstE at h
  have h1 : (makeN n).1 = 0 := by
    refine Decidable.byContradiction fun hn => ?_
    rw [if_pos hn] at h
    exact hn h
  rw [h1, if_neg (by decide)] at h
  have hm := (made_a2 hK.ok.to hK.sets h).1
  exact ⟨hm.least.1, hm⟩
section
variable {ro : Ro} {own r : Chs} {K : Value → Ro → Chs → Prop} {g : Chunk → Chs}
theorem makes08_ok (ht : TabOk ro) (hk : ∀ ro', Le ro ro' → K (.bool true) ro' own) : CallOk Tryz.prog 8 #[] ro own K := by
  refine CallOk.intro (args := []) (rs := [_]) T_ok Tryz.func8 Tryz.call8 rfl rfl (by kernel_rfl) rfl rfl ?_
  repeat (first | exact endA | refine wkP ?_ | refine opB (fun b => ?_) | refine opA (fun a' c' hc1 hc2 => ?_) | (apply GJ.and; exact rfl; intro hg) | (apply GJ.or; exact rfl; intro hg))
  refine rparse_ok (t := abT) (by decide) (fun ro2 v hl2 hv => ?_)
  rw [ab_ok]
  have hab : (parseD abT).1 = abD := rfl
  rw [hab] at hv
  have hv0 := hv
  obtain ⟨a1, c1, hvc⟩ := hv.cells
  subst hvc
  obtain ⟨hlst, hmd⟩ := lst_least hv0 ab_e
  have he := ab_e
  have f1 := ab_len
  have f2 := ab_width
  have f3 := ab_m1
  have f4 := ab_m2
  have f5 := ab_s1
  have f6 := ab_s2
  have f7 := ab_e1
  have f8 := ab_e2
  clear hab hv
  generalize abD = n at *
  obtain ⟨w, hw6, ho, hsu, hsx⟩ := hlst.ok
  clear hlst hsu hw6 hsx hmd
  repeat (first | exact endA | refine wkP ?_ | refine opB (fun b => ?_) | refine opA (fun a' c' hc1 hc2 => ?_) | (apply GJ.and; exact rfl; intro hg) | (apply GJ.or; exact rfl; intro hg))
  refine dof_ok (ht.le hl2) hv0 (fun ro3 P hl3 hP => ?_)
  rw [he]
  obtain ⟨_, p, rfl, hp⟩ := hP.resolve_left (fun h => h.1 he)
  repeat (first | exact endA | refine wkP ?_ | refine opB (fun b => ?_) | refine opA (fun a' c' hc1 hc2 => ?_) | (apply GJ.and; exact rfl; intro hg) | (apply GJ.or; exact rfl; intro hg))
  refine later_ok (fun q => ?_)
  repeat (first | exact endA | refine wkP ?_ | refine opB (fun b => ?_) | refine opA (fun a' c' hc1 hc2 => ?_) | (apply GJ.and; exact rfl; intro hg) | (apply GJ.or; exact rfl; intro hg))
  refine lauto0_ok (n := n) (a := a1) (c := c1) (x := 0) ((ht.le hl2).le hl3) (hv0.le hl3) (by decide) (fun ro4 P2 hl4 hP2 => ?_)
  rw [he]
  obtain ⟨_, p2, rfl, hp2⟩ := hP2.resolve_left (fun h => h.1 he)
  dsimp only [lz1]
  rw [he]
  repeat (first | exact endA | refine wkP ?_ | refine opB (fun b => ?_) | refine opA (fun a' c' hc1 hc2 => ?_) | (apply GJ.and; exact rfl; intro hg) | (apply GJ.or; exact rfl; intro hg))
  refine counts_ok (by decide) ?_
  repeat (first | exact endA | refine wkP ?_ | refine opB (fun b => ?_) | refine opA (fun a' c' hc1 hc2 => ?_) | (apply GJ.and; exact rfl; intro hg) | (apply GJ.or; exact rfl; intro hg))
  have hq := hp.le hl4
  refine dsame_ok hq hp2 ?_
  repeat (first | exact endA | refine wkP ?_ | refine opB (fun b => ?_) | refine opA (fun a' c' hc1 hc2 => ?_) | (apply GJ.and; exact rfl; intro hg) | (apply GJ.or; exact rfl; intro hg))
  refine dlen_ok hq ?_
  rw [f1]
  repeat (first | exact endA | refine wkP ?_ | refine opB (fun b => ?_) | refine opA (fun a' c' hc1 hc2 => ?_) | (apply GJ.and; exact rfl; intro hg) | (apply GJ.or; exact rfl; intro hg))
  refine dwidth_ok hq ?_
  rw [f2]
  repeat (first | exact endA | refine wkP ?_ | refine opB (fun b => ?_) | refine opA (fun a' c' hc1 hc2 => ?_) | (apply GJ.and; exact rfl; intro hg) | (apply GJ.or; exact rfl; intro hg))
  refine OpOk.bytesConst rfl rfl rfl rfl (fun ro5 hl5 hr5 => ?_)
  have hq := hq.le hl5
  repeat (first | exact endA | refine wkP ?_ | refine opB (fun b => ?_) | refine opA (fun a' c' hc1 hc2 => ?_) | (apply GJ.and; exact rfl; intro hg) | (apply GJ.or; exact rfl; intro hg))
  refine dmatch_ok (tx := [97, 97, 98]) hq ho hr5.rds rfl ?_
  rw [f3]
  repeat (first | exact endA | refine wkP ?_ | refine opB (fun b => ?_) | refine opA (fun a' c' hc1 hc2 => ?_) | (apply GJ.and; exact rfl; intro hg) | (apply GJ.or; exact rfl; intro hg))
  refine OpOk.bytesConst rfl rfl rfl rfl (fun ro6 hl6 hr6 => ?_)
  have hq := hq.le hl6
  repeat (first | exact endA | refine wkP ?_ | refine opB (fun b => ?_) | refine opA (fun a' c' hc1 hc2 => ?_) | (apply GJ.and; exact rfl; intro hg) | (apply GJ.or; exact rfl; intro hg))
  refine dmatch_ok (tx := [97, 97, 98, 98]) hq ho hr6.rds rfl ?_
  rw [f4]
  repeat (first | exact endA | refine wkP ?_ | refine opB (fun b => ?_) | refine opA (fun a' c' hc1 hc2 => ?_) | (apply GJ.and; exact rfl; intro hg) | (apply GJ.or; exact rfl; intro hg))
  refine dstep_ok (c := 98) hq ho (by decide) ?_
  rw [f5]
  repeat (first | exact endA | refine wkP ?_ | refine opB (fun b => ?_) | refine opA (fun a' c' hc1 hc2 => ?_) | (apply GJ.and; exact rfl; intro hg) | (apply GJ.or; exact rfl; intro hg))
  refine dstep_ok (c := 97) hq ho (by decide) ?_
  rw [f6]
  repeat (first | exact endA | refine wkP ?_ | refine opB (fun b => ?_) | refine opA (fun a' c' hc1 hc2 => ?_) | (apply GJ.and; exact rfl; intro hg) | (apply GJ.or; exact rfl; intro hg))
  refine dends_ok hq ?_
  rw [f7]
  repeat (first | exact endA | refine wkP ?_ | refine opB (fun b => ?_) | refine opA (fun a' c' hc1 hc2 => ?_) | (apply GJ.and; exact rfl; intro hg) | (apply GJ.or; exact rfl; intro hg))
  refine dends_ok hq ?_
  rw [f8]
  repeat (first | exact endA | refine wkP ?_ | refine opB (fun b => ?_) | refine opA (fun a' c' hc1 hc2 => ?_) | (apply GJ.and; exact rfl; intro hg) | (apply GJ.or; exact rfl; intro hg))
  exact Wk.outS Sup.auto (.refl _) (hk ro6 ((((hl2.trans hl3).trans hl4).trans hl5).trans hl6))
end
end Go.Proofs.YtinbmhbfcoiefaaGreatDoor
end
section
/- Contracts of the document's answer: Has, Ends, repeat, Match (guipureref07). -/
namespace Go.Proofs.YtinbmhbfcoiefaaGreatDoor
open Go Go.E
set_option linter.unusedVariables false
set_option linter.unusedSimpArgs false
set_option maxRecDepth 10000
section
variable {ro : Ro} {own r : Chs} {K : Value → Ro → Chs → Prop} {g : Chunk → Chs}
end
theorem bangB {l : List Bool} {i : Nat} (h : i < l.length) : l[((i : Nat) : Int).toNat]! = getB l i := getB_get h
theorem bools_zero (n : Nat) : List.replicate n (Value.bool false) = boolsV (List.replicate n false) := by simp [boolsV]
end Go.Proofs.YtinbmhbfcoiefaaGreatDoor
end
section
/- The law DfaClasses, walked. -/
namespace Go.Proofs.YtinbmhbfcoiefaaGreatDoor
open Go Go.E
set_option linter.unusedVariables false
set_option linter.unusedSimpArgs false
set_option maxRecDepth 10000
section
variable {ro : Ro} {own r : Chs} {K : Value → Ro → Chs → Prop} {g : Chunk → Chs}
theorem dstepX_ok {q : Nat} {d : DfaA} {w : Nat} {s x : Int} {c : Nat} (hx : x = (c : Int)) (hD : DAt ro q d) (ho : DfaOk w d) (hc : c < 256) (hk : K (.int .i64 (stepA d s c)) ro own) : CallOk Tryz.prog 16 #[ptr' q, .int .i64 s, .int .u8 x] ro own K := by
  subst hx
  exact dstep_ok hD ho hc hk
end
end Go.Proofs.YtinbmhbfcoiefaaGreatDoor
end
section
/- The law DfaLeast, walked: lives. -/
namespace Go.Proofs.YtinbmhbfcoiefaaGreatDoor
open Go Go.E
set_option linter.unusedVariables false
set_option linter.unusedSimpArgs false
set_option maxRecDepth 10000
section
variable {ro : Ro} {own r : Chs} {K : Value → Ro → Chs → Prop} {g : Chunk → Chs}
set_option maxHeartbeats 4000000 in
theorem lives_ok {q w : Nat} {D : DfaA} (hq : DAt ro q D) (ho : DfaOk w D) (hl : LeastA D) (hlv : ∀ s, s < D.next.length → LiveA D s)
    (hmet : ∀ t, 0 < t → t < D.next.length → ∃ s c, s < t ∧ c < 256 ∧ stepA D (s : Int) c = (t : Int)) (hk : K (.bool true) ro own) : CallOk Tryz.prog 17 #[ptr' q] ro own K := by
  have hpos := hl.pos
  have hle := hl.le
  refine CallOk.intro (args := [_]) (rs := [_]) T_ok Tryz.func17 Tryz.call17 rfl rfl (by kernel_rfl) rfl rfl ?_
  repeat (first | exact endA | refine wkP ?_ | refine opB (fun b => ?_) | refine opA (fun a' c' hc1 hc2 => ?_) | (apply GJ.and; exact rfl; intro hg) | (apply GJ.or; exact rfl; intro hg))
  refine dlen_ok hq ?_
  repeat (first | exact endA | refine wkP ?_ | refine opB (fun b => ?_) | refine opA (fun a' c' hc1 hc2 => ?_) | (apply GJ.and; exact rfl; intro hg) | (apply GJ.or; exact rfl; intro hg))
  refine AllOk.at (ι := Nat × Nat) (fun (b, c) => [(0, ptr' q), (3, .slice (some ⟨b, 0, none⟩) (D.next.length : Int).toNat (D.next.length : Int).toNat), (4, .slice (some ⟨c, 0, none⟩) (D.next.length : Int).toNat (D.next.length : Int).toNat)]) (fun (b, c) => .sl (some ⟨b, 0, none⟩) (D.next.length : Int).toNat (D.next.length : Int).toNat 4 1 (List.replicate (D.next.length : Int).toNat (Value.bool false)) :: .sl (some ⟨c, 0, none⟩) (D.next.length : Int).toNat (D.next.length : Int).toNat 4 1 (List.replicate (D.next.length : Int).toNat (Value.bool false)) :: own) (fun _ => True) ?_ (fun ⟨b, c⟩ _ => ?_)
  · repeat' (first | with_reducible exact vFo.nil | ((with_reducible refine vFo.cons ?_ ?_); refine vOne.at (by rfl) ?_) | ((with_reducible refine vFo.leaf ?_); exact ⟨rfl, (_, _), Sub.auto, Sup.auto, trivial⟩) | refine vFo.stop Sup.auto ?_ | (show Stop (OpOk _ _ _ _ _ _ _); refine Stop.mk ?_) | (show Stop (CallOk _ _ _ _ _ _); refine Stop.mk ?_) | refine opB (fun b => ?_) | refine dlen_ok hq ?_)
  dsimp only
  rw [Int.toNat_natCast, bools_zero]
  repeat (first | exact endA | refine wkP ?_ | refine opB (fun b => ?_) | refine opA (fun a' c' hc1 hc2 => ?_) | (apply GJ.and; exact rfl; intro hg) | (apply GJ.or; exact rfl; intro hg))
  refine OpOk.storeSlAt' (k := 0) rfl rfl rfl rfl rfl (by rw [boolsV_len]; simp; omega) ?_
  rw [boolsV_set]
  have hI : ((List.replicate D.next.length false).set 0 true).length = D.next.length ∧ getB ((List.replicate D.next.length false).set 0 true) 0 = true := ⟨by simp, by rw [getB_put (by simp; omega), if_pos rfl]⟩
  have hE : (List.replicate D.next.length false).length = D.next.length := by simp
  generalize (List.replicate D.next.length false).set 0 true = m0 at *
  generalize List.replicate D.next.length false = e0 at *
  repeat (first | exact endA | refine wkP ?_ | refine opB (fun b => ?_) | refine opA (fun a' c' hc1 hc2 => ?_) | (apply GJ.and; exact rfl; intro hg) | (apply GJ.or; exact rfl; intro hg))
  refine dlen_ok hq ?_
  repeat (first | exact endA | refine wkP ?_ | refine opB (fun b => ?_) | refine opA (fun a' c' hc1 hc2 => ?_) | (apply GJ.and; exact rfl; intro hg) | (apply GJ.or; exact rfl; intro hg))
  refine LoopOk.at (ι := Nat × List Bool × List Bool) Keep.auto (fun (r, m, e) => [(20, .int .i64 (r : Int))]) (fun (r, m, e) => .sl (some ⟨b, 0, none⟩) D.next.length D.next.length 4 1 (boolsV m) :: .sl (some ⟨c, 0, none⟩) D.next.length D.next.length 4 1 (boolsV e) :: own) (fun (r, m, e) => r ≤ D.next.length + 1 ∧ m.length = D.next.length ∧ getB m 0 = true ∧ (0 < r → ∀ t, t < D.next.length → getB m t = true) ∧ e.length = D.next.length ∧ ((∀ s, s < D.next.length → getB e s = true) ∨ r ≤ cntB e)) (fun (r, m, e) => D.next.length + 1 - r) (0, m0, e0) ?_ Sub.auto Sup.auto ?_
  · exact ⟨Nat.zero_le _, hI.1, hI.2, fun h => absurd h (Nat.lt_irrefl _), hE, .inr (Nat.zero_le _)⟩
  clear hI hE m0 e0
  rintro ⟨r, m, e⟩ ⟨i1, i2, i3, i4, i5, i6⟩
  dsimp only [List.cons_append, List.nil_append] at i1 i2 i3 i4 i5 i6 ⊢
  have hmv := boolsV_len m
  have hev := boolsV_len e
  by_cases hr : r < D.next.length + 1
  · have hM0 := MetP.again i2 i3
    have hE0 := EndsI.again i5
    obtain ⟨e0, he0⟩ : ∃ e0, e0 = e := ⟨_, rfl⟩
    rw [← he0] at i6 i5
    have hrd := fun x hx => ends_round (m := x) hl hlv i5 hx i6
    clear i2 i3 i4
    repeat (first | exact endA | refine wkP ?_ | refine opB (fun b => ?_) | refine opA (fun a' c' hc1 hc2 => ?_) | (apply GJ.and; exact rfl; intro hg) | (apply GJ.or; exact rfl; intro hg))
    refine LoopOk.at (ι := Nat × List Bool × List Bool) Keep.auto (fun (s, m, e) => [(24, .int .i64 (s : Int))]) (fun (s, m, e) => .sl (some ⟨b, 0, none⟩) D.next.length D.next.length 4 1 (boolsV m) :: .sl (some ⟨c, 0, none⟩) D.next.length D.next.length 4 1 (boolsV e) :: own) (fun (s, m, e) => s ≤ D.next.length ∧ MetP D m s 0 ∧ EndsI D e0 e s) (fun (s, m, e) => D.next.length - s) (0, m, e) ?_ Sub.auto Sup.auto ?_
    · exact ⟨Nat.zero_le _, hM0, by rw [he0]; exact hE0⟩
    clear hM0 hE0 he0 hmv hev
    rintro ⟨s, m, e⟩ ⟨j1, j2, j3⟩
    dsimp only [List.cons_append, List.nil_append] at j1 j2 j3 ⊢
    have hml := j2.len
    have hel := j3.len
    have hmv := boolsV_len m
    have hev := boolsV_len e
    by_cases hsl : s < D.next.length
    · have hput := j3.put hsl
      have hge := bangB (l := e) (i := s) (by omega)
      generalize getB e s = p at *
      cases p with
      | true =>
        rw [Bool.true_or] at hput
        repeat (first | exact endA | refine wkP ?_ | refine opB (fun b => ?_) | refine opA (fun a' c' hc1 hc2 => ?_) | (apply GJ.and; exact rfl; intro hg) | (apply GJ.or; exact rfl; intro hg))
        rw [hge]
        repeat (first | exact endA | refine wkP ?_ | refine opB (fun b => ?_) | refine opA (fun a' c' hc1 hc2 => ?_) | (apply GJ.and; exact rfl; intro hg) | (apply GJ.or; exact rfl; intro hg))
        refine OpOk.storeSlAt' (k := s) rfl rfl rfl rfl (by rw [Int.toNat_natCast]) (by omega) ?_
        rw [boolsV_set]
        generalize e.set s true = e2 at *
        repeat (first | exact endA | refine wkP ?_ | refine opB (fun b => ?_) | refine opA (fun a' c' hc1 hc2 => ?_) | (apply GJ.and; exact rfl; intro hg) | (apply GJ.or; exact rfl; intro hg))
        refine LoopOk.at (ι := Nat × List Bool × List Bool) Keep.auto (fun (d, m, e) => [(39, .int .i64 (d : Int))]) (fun (d, m, e) => .sl (some ⟨b, 0, none⟩) D.next.length D.next.length 4 1 (boolsV m) :: .sl (some ⟨c, 0, none⟩) D.next.length D.next.length 4 1 (boolsV e) :: own) (fun (d, m, e) => d ≤ 256 ∧ MetP D m s d ∧ EndsP D e0 e s d) (fun (d, m, e) => 256 - d) (0, m, e2) ?_ Sub.auto Sup.auto ?_
        · exact ⟨Nat.zero_le _, j2, hput⟩
        clear j2 j3 hput hge
        rintro ⟨d, m, e⟩ ⟨k1, k2, k3⟩
        dsimp only [List.cons_append, List.nil_append] at k1 k2 k3 ⊢
        have hml := k2.len
        have hel := k3.len
        have hmv := boolsV_len m
        have hev := boolsV_len e
        by_cases hd : d < 256
        · have hto := step_to ho (s : Int) hd
          have hsk1 := k2.skip
          have hsk2 := k3.skip
          repeat (first | exact endA | refine wkP ?_ | refine opB (fun b => ?_) | refine opA (fun a' c' hc1 hc2 => ?_) | (apply GJ.and; exact rfl; intro hg) | (apply GJ.or; exact rfl; intro hg))
          refine dstepX_ok (w := w) (c := d) (by omega) hq ho hd ?_
          by_cases hz : stepA D (s : Int) d < 0
          · generalize stepA D (s : Int) d = z at *
            repeat (first | exact endA | refine wkP ?_ | refine opB (fun b => ?_) | refine opA (fun a' c' hc1 hc2 => ?_) | (apply GJ.and; exact rfl; intro hg) | (apply GJ.or; exact rfl; intro hg))
            refine Wk.id ⟨(d + 1, m, e), ⟨rfl, ?_⟩, ?_, Sub.auto, Sup.auto⟩
            all_goals try dsimp only
            · exact ⟨by omega, hsk1 hz, hsk2 hz⟩
            · omega
          · obtain ⟨u, hu, hul⟩ := hto.resolve_left (fun h => hz (by omega))
            have hp1 := k2.put hmet hsl hul hu
            have hp2 := k3.put hsl hu
            have hms := k2.met hmet s (Nat.le_refl _) hsl
            rw [hu]
            have b1 := (bangB (l := m) (i := u) (by omega))
            have b2 := (bangB (l := m) (i := s) (by omega)).trans hms
            have b3 := (bangB (l := e) (i := s) (by omega))
            have b4 := (bangB (l := e) (i := u) (by omega))
            generalize getB m u = y1 at *
            generalize getB e s = y2 at *
            generalize getB e u = y3 at *
        
            cases y1 with
            | true =>
              cases y2 with
              | true =>
                repeat (first | exact endA | refine wkP ?_ | refine opB (fun b => ?_) | refine opA (fun a' c' hc1 hc2 => ?_) | (apply GJ.and; exact rfl; intro hg) | (apply GJ.or; exact rfl; intro hg))
                rw [b1]
                repeat (first | exact endA | refine wkP ?_ | refine opB (fun b => ?_) | refine opA (fun a' c' hc1 hc2 => ?_) | (apply GJ.and; exact rfl; intro hg) | (apply GJ.or; exact rfl; intro hg))
                refine OpOk.storeSlAt' (k := u) rfl rfl rfl rfl (by rw [Int.toNat_natCast]) (by omega) ?_
                rw [boolsV_set]
                repeat (first | exact endA | refine wkP ?_ | refine opB (fun b => ?_) | refine opA (fun a' c' hc1 hc2 => ?_) | (apply GJ.and; exact rfl; intro hg) | (apply GJ.or; exact rfl; intro hg))
                rw [b3]
                repeat (first | exact endA | refine wkP ?_ | refine opB (fun b => ?_) | refine opA (fun a' c' hc1 hc2 => ?_) | (apply GJ.and; exact rfl; intro hg) | (apply GJ.or; exact rfl; intro hg))
                refine OpOk.storeSlAt' (k := s) rfl rfl rfl rfl (by rw [Int.toNat_natCast]) (by omega) ?_
                rw [boolsV_set]
                repeat (first | exact endA | refine wkP ?_ | refine opB (fun b => ?_) | refine opA (fun a' c' hc1 hc2 => ?_) | (apply GJ.and; exact rfl; intro hg) | (apply GJ.or; exact rfl; intro hg))
                refine Wk.id ⟨(d + 1, m.set u true, e.set s true), ⟨rfl, ?_⟩, ?_, Sub.auto, Sup.auto⟩
                all_goals try dsimp only
                · exact ⟨by omega, hp1, by rwa [Bool.true_or] at hp2⟩
                · omega
              | false =>
                repeat (first | exact endA | refine wkP ?_ | refine opB (fun b => ?_) | refine opA (fun a' c' hc1 hc2 => ?_) | (apply GJ.and; exact rfl; intro hg) | (apply GJ.or; exact rfl; intro hg))
                rw [b1]
                repeat (first | exact endA | refine wkP ?_ | refine opB (fun b => ?_) | refine opA (fun a' c' hc1 hc2 => ?_) | (apply GJ.and; exact rfl; intro hg) | (apply GJ.or; exact rfl; intro hg))
                refine OpOk.storeSlAt' (k := u) rfl rfl rfl rfl (by rw [Int.toNat_natCast]) (by omega) ?_
                rw [boolsV_set]
                repeat (first | exact endA | refine wkP ?_ | refine opB (fun b => ?_) | refine opA (fun a' c' hc1 hc2 => ?_) | (apply GJ.and; exact rfl; intro hg) | (apply GJ.or; exact rfl; intro hg))
                rw [b3]
                repeat (first | exact endA | refine wkP ?_ | refine opB (fun b => ?_) | refine opA (fun a' c' hc1 hc2 => ?_) | (apply GJ.and; exact rfl; intro hg) | (apply GJ.or; exact rfl; intro hg))
                rw [b4]
                repeat (first | exact endA | refine wkP ?_ | refine opB (fun b => ?_) | refine opA (fun a' c' hc1 hc2 => ?_) | (apply GJ.and; exact rfl; intro hg) | (apply GJ.or; exact rfl; intro hg))
                refine OpOk.storeSlAt' (k := s) rfl rfl rfl rfl (by rw [Int.toNat_natCast]) (by omega) ?_
                rw [boolsV_set]
                repeat (first | exact endA | refine wkP ?_ | refine opB (fun b => ?_) | refine opA (fun a' c' hc1 hc2 => ?_) | (apply GJ.and; exact rfl; intro hg) | (apply GJ.or; exact rfl; intro hg))
                refine Wk.id ⟨(d + 1, m.set u true, e.set s y3), ⟨rfl, ?_⟩, ?_, Sub.auto, Sup.auto⟩
                all_goals try dsimp only
                · exact ⟨by omega, hp1, by rwa [Bool.false_or] at hp2⟩
                · omega
            | false =>
              cases y2 with
              | true =>
                repeat (first | exact endA | refine wkP ?_ | refine opB (fun b => ?_) | refine opA (fun a' c' hc1 hc2 => ?_) | (apply GJ.and; exact rfl; intro hg) | (apply GJ.or; exact rfl; intro hg))
                rw [b1]
                repeat (first | exact endA | refine wkP ?_ | refine opB (fun b => ?_) | refine opA (fun a' c' hc1 hc2 => ?_) | (apply GJ.and; exact rfl; intro hg) | (apply GJ.or; exact rfl; intro hg))
                rw [b2]
                repeat (first | exact endA | refine wkP ?_ | refine opB (fun b => ?_) | refine opA (fun a' c' hc1 hc2 => ?_) | (apply GJ.and; exact rfl; intro hg) | (apply GJ.or; exact rfl; intro hg))
                refine OpOk.storeSlAt' (k := u) rfl rfl rfl rfl (by rw [Int.toNat_natCast]) (by omega) ?_
                rw [boolsV_set]
                repeat (first | exact endA | refine wkP ?_ | refine opB (fun b => ?_) | refine opA (fun a' c' hc1 hc2 => ?_) | (apply GJ.and; exact rfl; intro hg) | (apply GJ.or; exact rfl; intro hg))
                rw [b3]
                repeat (first | exact endA | refine wkP ?_ | refine opB (fun b => ?_) | refine opA (fun a' c' hc1 hc2 => ?_) | (apply GJ.and; exact rfl; intro hg) | (apply GJ.or; exact rfl; intro hg))
                refine OpOk.storeSlAt' (k := s) rfl rfl rfl rfl (by rw [Int.toNat_natCast]) (by omega) ?_
                rw [boolsV_set]
                repeat (first | exact endA | refine wkP ?_ | refine opB (fun b => ?_) | refine opA (fun a' c' hc1 hc2 => ?_) | (apply GJ.and; exact rfl; intro hg) | (apply GJ.or; exact rfl; intro hg))
                refine Wk.id ⟨(d + 1, m.set u true, e.set s true), ⟨rfl, ?_⟩, ?_, Sub.auto, Sup.auto⟩
                all_goals try dsimp only
                · exact ⟨by omega, hp1, by rwa [Bool.true_or] at hp2⟩
                · omega
              | false =>
                repeat (first | exact endA | refine wkP ?_ | refine opB (fun b => ?_) | refine opA (fun a' c' hc1 hc2 => ?_) | (apply GJ.and; exact rfl; intro hg) | (apply GJ.or; exact rfl; intro hg))
                rw [b1]
                repeat (first | exact endA | refine wkP ?_ | refine opB (fun b => ?_) | refine opA (fun a' c' hc1 hc2 => ?_) | (apply GJ.and; exact rfl; intro hg) | (apply GJ.or; exact rfl; intro hg))
                rw [b2]
                repeat (first | exact endA | refine wkP ?_ | refine opB (fun b => ?_) | refine opA (fun a' c' hc1 hc2 => ?_) | (apply GJ.and; exact rfl; intro hg) | (apply GJ.or; exact rfl; intro hg))
                refine OpOk.storeSlAt' (k := u) rfl rfl rfl rfl (by rw [Int.toNat_natCast]) (by omega) ?_
                rw [boolsV_set]
                repeat (first | exact endA | refine wkP ?_ | refine opB (fun b => ?_) | refine opA (fun a' c' hc1 hc2 => ?_) | (apply GJ.and; exact rfl; intro hg) | (apply GJ.or; exact rfl; intro hg))
                rw [b3]
                repeat (first | exact endA | refine wkP ?_ | refine opB (fun b => ?_) | refine opA (fun a' c' hc1 hc2 => ?_) | (apply GJ.and; exact rfl; intro hg) | (apply GJ.or; exact rfl; intro hg))
                rw [b4]
                repeat (first | exact endA | refine wkP ?_ | refine opB (fun b => ?_) | refine opA (fun a' c' hc1 hc2 => ?_) | (apply GJ.and; exact rfl; intro hg) | (apply GJ.or; exact rfl; intro hg))
                refine OpOk.storeSlAt' (k := s) rfl rfl rfl rfl (by rw [Int.toNat_natCast]) (by omega) ?_
                rw [boolsV_set]
                repeat (first | exact endA | refine wkP ?_ | refine opB (fun b => ?_) | refine opA (fun a' c' hc1 hc2 => ?_) | (apply GJ.and; exact rfl; intro hg) | (apply GJ.or; exact rfl; intro hg))
                refine Wk.id ⟨(d + 1, m.set u true, e.set s y3), ⟨rfl, ?_⟩, ?_, Sub.auto, Sup.auto⟩
                all_goals try dsimp only
                · exact ⟨by omega, hp1, by rwa [Bool.false_or] at hp2⟩
                · omega
        · have hn1 := k2.next (by omega)
          have hn2 := k3.next (by omega)
          repeat (first | exact endA | refine wkP ?_ | refine opB (fun b => ?_) | refine opA (fun a' c' hc1 hc2 => ?_) | (apply GJ.and; exact rfl; intro hg) | (apply GJ.or; exact rfl; intro hg))
          refine Wk.id ⟨(s + 1, m, e), ⟨rfl, ?_⟩, ?_, Sub.auto, Sup.auto⟩
          all_goals try dsimp only
          · exact ⟨by omega, hn1, hn2⟩
          · omega
      | false =>
        rw [Bool.false_or] at hput
        repeat (first | exact endA | refine wkP ?_ | refine opB (fun b => ?_) | refine opA (fun a' c' hc1 hc2 => ?_))
        rw [hge]
        repeat (first | exact endA | refine wkP ?_ | refine opB (fun b => ?_) | refine opA (fun a' c' hc1 hc2 => ?_) | (apply GJ.and; exact rfl; intro hg) | (apply GJ.or; exact rfl; intro hg))
        refine dends_ok hq ?_
        repeat (first | exact endA | refine wkP ?_ | refine opB (fun b => ?_) | refine opA (fun a' c' hc1 hc2 => ?_) | (apply GJ.and; exact rfl; intro hg) | (apply GJ.or; exact rfl; intro hg))
        refine OpOk.storeSlAt' (k := s) rfl rfl rfl rfl (by rw [Int.toNat_natCast]) (by omega) ?_
        rw [boolsV_set]
        generalize e.set s (endsA D (s : Int)) = e2 at *
        repeat (first | exact endA | refine wkP ?_ | refine opB (fun b => ?_) | refine opA (fun a' c' hc1 hc2 => ?_) | (apply GJ.and; exact rfl; intro hg) | (apply GJ.or; exact rfl; intro hg))
        refine LoopOk.at (ι := Nat × List Bool × List Bool) Keep.auto (fun (d, m, e) => [(39, .int .i64 (d : Int))]) (fun (d, m, e) => .sl (some ⟨b, 0, none⟩) D.next.length D.next.length 4 1 (boolsV m) :: .sl (some ⟨c, 0, none⟩) D.next.length D.next.length 4 1 (boolsV e) :: own) (fun (d, m, e) => d ≤ 256 ∧ MetP D m s d ∧ EndsP D e0 e s d) (fun (d, m, e) => 256 - d) (0, m, e2) ?_ Sub.auto Sup.auto ?_
        · exact ⟨Nat.zero_le _, j2, hput⟩
        clear j2 j3 hput hge
        rintro ⟨d, m, e⟩ ⟨k1, k2, k3⟩
        dsimp only [List.cons_append, List.nil_append] at k1 k2 k3 ⊢
        have hml := k2.len
        have hel := k3.len
        have hmv := boolsV_len m
        have hev := boolsV_len e
        by_cases hd : d < 256
        · have hto := step_to ho (s : Int) hd
          have hsk1 := k2.skip
          have hsk2 := k3.skip
          repeat (first | exact endA | refine wkP ?_ | refine opB (fun b => ?_) | refine opA (fun a' c' hc1 hc2 => ?_) | (apply GJ.and; exact rfl; intro hg) | (apply GJ.or; exact rfl; intro hg))
          refine dstepX_ok (w := w) (c := d) (by omega) hq ho hd ?_
          by_cases hz : stepA D (s : Int) d < 0
          · generalize stepA D (s : Int) d = z at *
            repeat (first | exact endA | refine wkP ?_ | refine opB (fun b => ?_) | refine opA (fun a' c' hc1 hc2 => ?_) | (apply GJ.and; exact rfl; intro hg) | (apply GJ.or; exact rfl; intro hg))
            refine Wk.id ⟨(d + 1, m, e), ⟨rfl, ?_⟩, ?_, Sub.auto, Sup.auto⟩
            all_goals try dsimp only
            · exact ⟨by omega, hsk1 hz, hsk2 hz⟩
            · omega
          · obtain ⟨u, hu, hul⟩ := hto.resolve_left (fun h => hz (by omega))
            have hp1 := k2.put hmet hsl hul hu
            have hp2 := k3.put hsl hu
            have hms := k2.met hmet s (Nat.le_refl _) hsl
            rw [hu]
            have b1 := (bangB (l := m) (i := u) (by omega))
            have b2 := (bangB (l := m) (i := s) (by omega)).trans hms
            have b3 := (bangB (l := e) (i := s) (by omega))
            have b4 := (bangB (l := e) (i := u) (by omega))
            generalize getB m u = y1 at *
            generalize getB e s = y2 at *
            generalize getB e u = y3 at *
        
            cases y1 with
            | true =>
              cases y2 with
              | true =>
                repeat (first | exact endA | refine wkP ?_ | refine opB (fun b => ?_) | refine opA (fun a' c' hc1 hc2 => ?_) | (apply GJ.and; exact rfl; intro hg) | (apply GJ.or; exact rfl; intro hg))
                rw [b1]
                repeat (first | exact endA | refine wkP ?_ | refine opB (fun b => ?_) | refine opA (fun a' c' hc1 hc2 => ?_) | (apply GJ.and; exact rfl; intro hg) | (apply GJ.or; exact rfl; intro hg))
                refine OpOk.storeSlAt' (k := u) rfl rfl rfl rfl (by rw [Int.toNat_natCast]) (by omega) ?_
                rw [boolsV_set]
                repeat (first | exact endA | refine wkP ?_ | refine opB (fun b => ?_) | refine opA (fun a' c' hc1 hc2 => ?_) | (apply GJ.and; exact rfl; intro hg) | (apply GJ.or; exact rfl; intro hg))
                rw [b3]
                repeat (first | exact endA | refine wkP ?_ | refine opB (fun b => ?_) | refine opA (fun a' c' hc1 hc2 => ?_) | (apply GJ.and; exact rfl; intro hg) | (apply GJ.or; exact rfl; intro hg))
                refine OpOk.storeSlAt' (k := s) rfl rfl rfl rfl (by rw [Int.toNat_natCast]) (by omega) ?_
                rw [boolsV_set]
                repeat (first | exact endA | refine wkP ?_ | refine opB (fun b => ?_) | refine opA (fun a' c' hc1 hc2 => ?_) | (apply GJ.and; exact rfl; intro hg) | (apply GJ.or; exact rfl; intro hg))
                refine Wk.id ⟨(d + 1, m.set u true, e.set s true), ⟨rfl, ?_⟩, ?_, Sub.auto, Sup.auto⟩
                all_goals try dsimp only
                · exact ⟨by omega, hp1, by rwa [Bool.true_or] at hp2⟩
                · omega
              | false =>
                repeat (first | exact endA | refine wkP ?_ | refine opB (fun b => ?_) | refine opA (fun a' c' hc1 hc2 => ?_) | (apply GJ.and; exact rfl; intro hg) | (apply GJ.or; exact rfl; intro hg))
                rw [b1]
                repeat (first | exact endA | refine wkP ?_ | refine opB (fun b => ?_) | refine opA (fun a' c' hc1 hc2 => ?_) | (apply GJ.and; exact rfl; intro hg) | (apply GJ.or; exact rfl; intro hg))
                refine OpOk.storeSlAt' (k := u) rfl rfl rfl rfl (by rw [Int.toNat_natCast]) (by omega) ?_
                rw [boolsV_set]
                repeat (first | exact endA | refine wkP ?_ | refine opB (fun b => ?_) | refine opA (fun a' c' hc1 hc2 => ?_) | (apply GJ.and; exact rfl; intro hg) | (apply GJ.or; exact rfl; intro hg))
                rw [b3]
                repeat (first | exact endA | refine wkP ?_ | refine opB (fun b => ?_) | refine opA (fun a' c' hc1 hc2 => ?_) | (apply GJ.and; exact rfl; intro hg) | (apply GJ.or; exact rfl; intro hg))
                rw [b4]
                repeat (first | exact endA | refine wkP ?_ | refine opB (fun b => ?_) | refine opA (fun a' c' hc1 hc2 => ?_) | (apply GJ.and; exact rfl; intro hg) | (apply GJ.or; exact rfl; intro hg))
                refine OpOk.storeSlAt' (k := s) rfl rfl rfl rfl (by rw [Int.toNat_natCast]) (by omega) ?_
                rw [boolsV_set]
                repeat (first | exact endA | refine wkP ?_ | refine opB (fun b => ?_) | refine opA (fun a' c' hc1 hc2 => ?_) | (apply GJ.and; exact rfl; intro hg) | (apply GJ.or; exact rfl; intro hg))
                refine Wk.id ⟨(d + 1, m.set u true, e.set s y3), ⟨rfl, ?_⟩, ?_, Sub.auto, Sup.auto⟩
                all_goals try dsimp only
                · exact ⟨by omega, hp1, by rwa [Bool.false_or] at hp2⟩
                · omega
            | false =>
              cases y2 with
              | true =>
                repeat (first | exact endA | refine wkP ?_ | refine opB (fun b => ?_) | refine opA (fun a' c' hc1 hc2 => ?_) | (apply GJ.and; exact rfl; intro hg) | (apply GJ.or; exact rfl; intro hg))
                rw [b1]
                repeat (first | exact endA | refine wkP ?_ | refine opB (fun b => ?_) | refine opA (fun a' c' hc1 hc2 => ?_) | (apply GJ.and; exact rfl; intro hg) | (apply GJ.or; exact rfl; intro hg))
                rw [b2]
                repeat (first | exact endA | refine wkP ?_ | refine opB (fun b => ?_) | refine opA (fun a' c' hc1 hc2 => ?_) | (apply GJ.and; exact rfl; intro hg) | (apply GJ.or; exact rfl; intro hg))
                refine OpOk.storeSlAt' (k := u) rfl rfl rfl rfl (by rw [Int.toNat_natCast]) (by omega) ?_
                rw [boolsV_set]
                repeat (first | exact endA | refine wkP ?_ | refine opB (fun b => ?_) | refine opA (fun a' c' hc1 hc2 => ?_) | (apply GJ.and; exact rfl; intro hg) | (apply GJ.or; exact rfl; intro hg))
                rw [b3]
                repeat (first | exact endA | refine wkP ?_ | refine opB (fun b => ?_) | refine opA (fun a' c' hc1 hc2 => ?_) | (apply GJ.and; exact rfl; intro hg) | (apply GJ.or; exact rfl; intro hg))
                refine OpOk.storeSlAt' (k := s) rfl rfl rfl rfl (by rw [Int.toNat_natCast]) (by omega) ?_
                rw [boolsV_set]
                repeat (first | exact endA | refine wkP ?_ | refine opB (fun b => ?_) | refine opA (fun a' c' hc1 hc2 => ?_) | (apply GJ.and; exact rfl; intro hg) | (apply GJ.or; exact rfl; intro hg))
                refine Wk.id ⟨(d + 1, m.set u true, e.set s true), ⟨rfl, ?_⟩, ?_, Sub.auto, Sup.auto⟩
                all_goals try dsimp only
                · exact ⟨by omega, hp1, by rwa [Bool.true_or] at hp2⟩
                · omega
              | false =>
                repeat (first | exact endA | refine wkP ?_ | refine opB (fun b => ?_) | refine opA (fun a' c' hc1 hc2 => ?_) | (apply GJ.and; exact rfl; intro hg) | (apply GJ.or; exact rfl; intro hg))
                rw [b1]
                repeat (first | exact endA | refine wkP ?_ | refine opB (fun b => ?_) | refine opA (fun a' c' hc1 hc2 => ?_) | (apply GJ.and; exact rfl; intro hg) | (apply GJ.or; exact rfl; intro hg))
                rw [b2]
                repeat (first | exact endA | refine wkP ?_ | refine opB (fun b => ?_) | refine opA (fun a' c' hc1 hc2 => ?_) | (apply GJ.and; exact rfl; intro hg) | (apply GJ.or; exact rfl; intro hg))
                refine OpOk.storeSlAt' (k := u) rfl rfl rfl rfl (by rw [Int.toNat_natCast]) (by omega) ?_
                rw [boolsV_set]
                repeat (first | exact endA | refine wkP ?_ | refine opB (fun b => ?_) | refine opA (fun a' c' hc1 hc2 => ?_) | (apply GJ.and; exact rfl; intro hg) | (apply GJ.or; exact rfl; intro hg))
                rw [b3]
                repeat (first | exact endA | refine wkP ?_ | refine opB (fun b => ?_) | refine opA (fun a' c' hc1 hc2 => ?_) | (apply GJ.and; exact rfl; intro hg) | (apply GJ.or; exact rfl; intro hg))
                rw [b4]
                repeat (first | exact endA | refine wkP ?_ | refine opB (fun b => ?_) | refine opA (fun a' c' hc1 hc2 => ?_) | (apply GJ.and; exact rfl; intro hg) | (apply GJ.or; exact rfl; intro hg))
                refine OpOk.storeSlAt' (k := s) rfl rfl rfl rfl (by rw [Int.toNat_natCast]) (by omega) ?_
                rw [boolsV_set]
                repeat (first | exact endA | refine wkP ?_ | refine opB (fun b => ?_) | refine opA (fun a' c' hc1 hc2 => ?_) | (apply GJ.and; exact rfl; intro hg) | (apply GJ.or; exact rfl; intro hg))
                refine Wk.id ⟨(d + 1, m.set u true, e.set s y3), ⟨rfl, ?_⟩, ?_, Sub.auto, Sup.auto⟩
                all_goals try dsimp only
                · exact ⟨by omega, hp1, by rwa [Bool.false_or] at hp2⟩
                · omega
        · have hn1 := k2.next (by omega)
          have hn2 := k3.next (by omega)
          repeat (first | exact endA | refine wkP ?_ | refine opB (fun b => ?_) | refine opA (fun a' c' hc1 hc2 => ?_) | (apply GJ.and; exact rfl; intro hg) | (apply GJ.or; exact rfl; intro hg))
          refine Wk.id ⟨(s + 1, m, e), ⟨rfl, ?_⟩, ?_, Sub.auto, Sup.auto⟩
          all_goals try dsimp only
          · exact ⟨by omega, hn1, hn2⟩
          · omega
    · obtain rfl : s = D.next.length := by omega
      have hend := hrd e j3
      have hall := fun t (ht : t < D.next.length) => j2.met hmet t (by omega) ht
      have hz := j2.zero
      repeat (first | exact endA | refine wkP ?_ | refine opB (fun b => ?_) | refine opA (fun a' c' hc1 hc2 => ?_) | (apply GJ.and; exact rfl; intro hg) | (apply GJ.or; exact rfl; intro hg))
      refine Wk.id ⟨(r + 1, m, e), ⟨rfl, ?_⟩, ?_, Sub.auto, Sup.auto⟩
      all_goals try dsimp only
      · exact ⟨by omega, hml, hz, fun _ => hall, hel, hend⟩
      · omega
  · obtain rfl : r = D.next.length + 1 := by omega
    have ha := i4 (by omega)
    have hb := ends_all i5 i6
    clear i3 i4 i6
    repeat (first | exact endA | refine wkP ?_ | refine opB (fun b => ?_) | refine opA (fun a' c' hc1 hc2 => ?_) | (apply GJ.and; exact rfl; intro hg) | (apply GJ.or; exact rfl; intro hg))
    refine LoopOk.at (ι := Nat) Keep.auto (fun t => [(80, .int .i64 (t : Int))]) (fun t => .sl (some ⟨b, 0, none⟩) D.next.length D.next.length 4 1 (boolsV m) :: .sl (some ⟨c, 0, none⟩) D.next.length D.next.length 4 1 (boolsV e) :: own) (fun t => t ≤ D.next.length) (fun t => D.next.length - t) 0 ?_ Sub.auto Sup.auto ?_
    · exact Nat.zero_le _
    intro t j1
    dsimp only [List.cons_append, List.nil_append] at j1 ⊢
    by_cases ht : t < D.next.length
    · have b1 := (bangB (l := m) (i := t) (by omega)).trans (ha t ht)
      have b2 := (bangB (l := e) (i := t) (by omega)).trans (hb t ht)
      repeat (first | exact endA | refine wkP ?_ | refine opB (fun b => ?_) | refine opA (fun a' c' hc1 hc2 => ?_) | (apply GJ.and; exact rfl; intro hg) | (apply GJ.or; exact rfl; intro hg))
      rw [b1]
      repeat (first | exact endA | refine wkP ?_ | refine opB (fun b => ?_) | refine opA (fun a' c' hc1 hc2 => ?_) | (apply GJ.and; exact rfl; intro hg) | (apply GJ.or; exact rfl; intro hg))
      rw [b2]
      repeat (first | exact endA | refine wkP ?_ | refine opB (fun b => ?_) | refine opA (fun a' c' hc1 hc2 => ?_) | (apply GJ.and; exact rfl; intro hg) | (apply GJ.or; exact rfl; intro hg))
      refine Wk.id ⟨t + 1, ⟨rfl, ?_⟩, ?_, Sub.auto, Sup.auto⟩
      all_goals try dsimp only
      · omega
      · omega
    · repeat (first | exact endA | refine wkP ?_ | refine opB (fun b => ?_) | refine opA (fun a' c' hc1 hc2 => ?_) | (apply GJ.and; exact rfl; intro hg) | (apply GJ.or; exact rfl; intro hg))
      exact Wk.outS Sup.auto (.refl _) hk
end
end Go.Proofs.YtinbmhbfcoiefaaGreatDoor
end
section
/- The law DfaLeast, walked. -/
namespace Go.Proofs.YtinbmhbfcoiefaaGreatDoor
open Go Go.E
set_option linter.unusedVariables false
set_option linter.unusedSimpArgs false
set_option maxRecDepth 10000
/-! A square: a row of slices, and the slices. -/
abbrev RowB := Option Addr × List Bool
def rowB (n : Nat) (x : RowB) : Chunk := .sl x.1 n n 4 1 (boolsV x.2)
def putB (n : Nat) (R : List RowB) (i : Nat) (r : Chs) (c : Chunk) : Chs := (R.take i).map (rowB n) ++ c :: ((R.drop (i + 1)).map (rowB n) ++ r)
theorem Repl.mid : ∀ (A B : Chs) (c x : Chunk), Repl (A ++ c :: B) c x (A ++ x :: B)
  | [], B, c, x => .hit c x B
  | y :: A, B, c, x => .miss y (Repl.mid A B c x)
theorem HasSl.ofRow {n : Nat} {R : List RowB} {i : Nat} {a : Option Addr} {l : List Bool} (h : R[i]? = some (a, l)) (r : Chs) : HasSl (R.map (rowB n) ++ r) a n n 4 1 (boolsV l) (putB n R i r) := ⟨fun c => by
  obtain ⟨hi, e⟩ := List.getElem?_eq_some_iff.1 h
  have hR : R.map (rowB n) ++ r = (R.take i).map (rowB n) ++ (.sl a n n 4 1 (boolsV l)) :: ((R.drop (i + 1)).map (rowB n) ++ r) := by
    have h1 : R = R.take i ++ (a, l) :: R.drop (i + 1) := by rw [← e, List.getElem_cons_drop, List.take_append_drop]
    have h2 : R.map (rowB n) = (R.take i ++ (a, l) :: R.drop (i + 1)).map (rowB n) := by rw [← h1]
    rw [h2, List.map_append, List.map_cons, List.append_assoc, List.cons_append]
    rfl
  rw [hR]
  exact Repl.mid _ _ _ _⟩
theorem putB_eq {n : Nat} {R : List RowB} {i : Nat} (hi : i < R.length) (a : Option Addr) (l : List Bool) (r : Chs) : putB n R i r (.sl a n n 4 1 (boolsV l)) = (R.set i (a, l)).map (rowB n) ++ r := by
  unfold putB
  rw [List.set_eq_take_append_cons_drop, if_pos hi, List.map_append, List.map_cons, List.append_assoc, List.cons_append]
  rfl
def matsB (R : List RowB) : List (List Bool) := R.map (·.2)
theorem mats_get {R : List RowB} {i : Nat} {a : Option Addr} {l : List Bool} (h : R[i]? = some (a, l)) (k : Nat) : getM2 (matsB R) i k = getB l k := by
  unfold getM2 matsB
  rw [List.getElem?_map, h]; rfl
theorem mats_put {R : List RowB} {i : Nat} {a : Option Addr} {l : List Bool} (h : R[i]? = some (a, l)) (k : Nat) : matsB (R.set i (a, l.set k true)) = setM (matsB R) i k := by
  unfold setM matsB
  rw [List.map_set, List.getElem?_map, h]; rfl
theorem mats_row {n : Nat} {R : List RowB} (h : MatOk n (matsB R)) {i : Nat} (hi : i < n) : ∃ a l, R[i]? = some (a, l) ∧ l.length = n := by
  obtain ⟨r, h1, h2⟩ := h.at hi
  unfold matsB at h1
  rw [List.getElem?_map] at h1
  cases hr : R[i]? with
  | none => rw [hr] at h1; cases h1
  | some x =>
    obtain ⟨a, l⟩ := x
    rw [hr] at h1
    cases h1
    exact ⟨a, l, rfl, h2⟩
/-- The headers of a square's rows. -/
def HdrB (n : Nat) (R : List RowB) (H : List Value) : Prop := H.length = n ∧ ∀ (j : Nat) (a : Option Addr) (l : List Bool), R[j]? = some (a, l) → H[j]? = some (Value.slice a n n)
theorem HdrB.put {n : Nat} {R : List RowB} {H : List Value} (h : HdrB n R H) {i : Nat} {a : Option Addr} {l : List Bool} (hi : R[i]? = some (a, l)) (l' : List Bool) : HdrB n (R.set i (a, l')) H :=
  ⟨h.1, fun j b m hj => by
    by_cases e : j = i
    · subst e
      rw [List.getElem?_set_self (List.getElem?_eq_some_iff.1 hi).1] at hj
      cases hj
      exact h.2 j a l hi
    · rw [List.getElem?_set_ne (fun x => e x.symm)] at hj
      exact h.2 j b m hj⟩
theorem HdrB.snoc {n : Nat} {R : List RowB} {H : List Value} (h : HdrB n R H) (hl : R.length < n) (a : Option Addr) (l : List Bool) : HdrB n (R ++ [(a, l)]) (H.set R.length (Value.slice a n n)) :=
  ⟨by rw [List.length_set, h.1], fun j b m hj => by
    by_cases e : j = R.length
    · subst e
      rw [snoc_new] at hj
      cases hj
      rw [List.getElem?_set_self (by rw [h.1]; exact hl)]
    · rw [List.getElem?_set_ne (fun x => e x.symm)]
      rcases Go.Proofs.YtinbmhbfcoiefaaGreatDoor.snoc_get hj with ⟨h1, h2⟩ | ⟨h1, h2⟩
      · exact h.2 j b m h2
      · exact absurd h1 e⟩
theorem Sup.rows : ∀ (A own : Chs), Sup (A ++ own) own
  | [], own => Sup.all _
  | x :: A, own => Sup.drop x (Sup.rows A own)
theorem rowsB_snoc (n : Nat) (R : List RowB) (y : RowB) (r : Chs) : (rowB n y :: (R.map (rowB n) ++ r)).Perm ((R ++ [y]).map (rowB n) ++ r) := by
  rw [List.map_append, List.append_assoc]
  exact List.perm_middle.symm
section
variable {ro : Ro} {own r : Chs} {K : Value → Ro → Chs → Prop} {g : Chunk → Chs}
set_option maxHeartbeats 4000000 in
theorem dleast_law {n : RgD} {v : List Value} (ht : TabOk ro) (hv : RgOk ro n v) (hk : K (.bool true) ro own) : CallOk Tryz.prog 4 #[.agg v.toArray] ro own K := by
  refine CallOk.back ?_
  have hin := rg_ins hv
  obtain ⟨a1, c1, hvc⟩ := hv.cells
  have hv0 := hv
  subst hvc
  refine CallOk.intro (args := [_]) (rs := [_]) T_ok Tryz.func4 Tryz.call4 rfl rfl (by kernel_rfl) rfl rfl ?_
  repeat (first | exact endA | refine wkP ?_ | refine opB (fun b => ?_) | refine opA (fun a' c' hc1 hc2 => ?_) | (apply GJ.and; exact rfl; intro hg) | (apply GJ.or; exact rfl; intro hg))
  refine makes08_ok ht (fun ro1 hl1 => ?_)
  repeat (first | exact endA | refine wkP ?_ | refine opB (fun b => ?_) | refine opA (fun a' c' hc1 hc2 => ?_) | (apply GJ.and; exact rfl; intro hg) | (apply GJ.or; exact rfl; intro hg))
  refine dmade_ok (ht.le hl1) (hv0.le hl1) (fun ro2 hl2 hn => ?_) (fun ro2 p q hl2 hm hp hq => ?_)
  · repeat (first | exact endA | refine wkP ?_ | refine opB (fun b => ?_) | refine opA (fun a' c' hc1 hc2 => ?_) | (apply GJ.and; exact rfl; intro hg) | (apply GJ.or; exact rfl; intro hg))
    exact Wk.back1 Sup.auto (.refl _) hk
  obtain ⟨h1, h2, h3⟩ := hm
  have hK := make_k hin
  have hm := (made_a2 hK.ok.to hK.sets h3).1
  obtain ⟨hL, _, hle⟩ := hm.least
  have hq2 : DAt ro2 q (leastA (makeA (makeN n).2).2) := hq
  clear hq hm h1 h2 h3 hK hin
  generalize leastA (makeA (makeN n).2).2 = D at *
  generalize (makeA (makeN n).2).2 = D0 at *
  obtain ⟨w, hw, ho, hs, _, _⟩ := hL.ok
  have hpos := hL.pos
  have h1024 := hL.le
  repeat (first | exact endA | refine wkP ?_ | refine opB (fun b => ?_) | refine opA (fun a' c' hc1 hc2 => ?_) | (apply GJ.and; exact rfl; intro hg) | (apply GJ.or; exact rfl; intro hg))
  refine dlen_ok hq2 ?_
  by_cases h30 : 30 < D.next.length
  · repeat (first | exact endA | refine wkP ?_ | refine opB (fun b => ?_) | refine opA (fun a' c' hc1 hc2 => ?_) | (apply GJ.and; exact rfl; intro hg) | (apply GJ.or; exact rfl; intro hg))
    exact Wk.back1 Sup.auto (.refl _) hk
  repeat (first | exact endA | refine wkP ?_ | refine opB (fun b => ?_) | refine opA (fun a' c' hc1 hc2 => ?_) | (apply GJ.and; exact rfl; intro hg) | (apply GJ.or; exact rfl; intro hg))
  refine dlen_ok hq2 ?_
  repeat (first | exact endA | refine wkP ?_ | refine opB (fun b => ?_) | refine opA (fun a' c' hc1 hc2 => ?_) | (apply GJ.and; exact rfl; intro hg) | (apply GJ.or; exact rfl; intro hg))
  refine dlen_ok hp ?_
  repeat (first | exact endA | refine wkP ?_ | refine opB (fun b => ?_) | refine opA (fun a' c' hc1 hc2 => ?_) | (apply GJ.and; exact rfl; intro hg) | (apply GJ.or; exact rfl; intro hg))
  refine dleast_ok (w := w) hq2 ho hs hw hpos h1024 (fun ro3 p3 hl3 hp3 => ?_)
  rw [hL.again] at hp3
  repeat (first | exact endA | refine wkP ?_ | refine opB (fun b => ?_) | refine opA (fun a' c' hc1 hc2 => ?_) | (apply GJ.and; exact rfl; intro hg) | (apply GJ.or; exact rfl; intro hg))
  refine dsame_ok (hq2.le hl3) hp3 ?_
  have hq3 := hq2.le hl3
  clear hq2 hp hp3 hv0
  repeat (first | exact endA | refine wkP ?_ | refine opB (fun b => ?_) | refine opA (fun a' c' hc1 hc2 => ?_) | (apply GJ.and; exact rfl; intro hg) | (apply GJ.or; exact rfl; intro hg))
  refine dlen_ok hq3 ?_
  repeat (first | exact endA | refine wkP ?_ | refine opB (fun b => ?_) | refine opA (fun a' c' hc1 hc2 => ?_) | (apply GJ.and; exact rfl; intro hg) | (apply GJ.or; exact rfl; intro hg))
  rw [Int.toNat_natCast]
  obtain ⟨bH, hbH⟩ : ∃ z : Nat, z = b := ⟨_, rfl⟩
  subst hbH
  generalize hN : D.next.length = N at *
  have hH0 : HdrB N [] (List.replicate N (.slice none 0 0)) := ⟨by simp, fun j a l h => by simp at h⟩
  generalize List.replicate N (Value.slice none 0 0) = H0 at *
  refine LoopOk.at (ι := Nat × List RowB × List Value) Keep.auto (fun (i, R, H) => [(49, .int .i64 (i : Int))]) (fun (i, R, H) => .sl (some ⟨bH, 0, none⟩) N N 38 1 H :: (R.map (rowB N) ++ own)) (fun (i, R, H) => i ≤ N ∧ R.length = i ∧ HdrB N R H ∧ matsB R = (List.range i).map (baseR D)) (fun (i, R, H) => N - i) (0, [], H0) ?_ Sub.auto Sup.auto ?_
  · exact ⟨Nat.zero_le _, rfl, hH0, rfl⟩
  clear hH0
  rintro ⟨i, R, H⟩ ⟨i1, i2, i3, i4⟩
  dsimp only [List.cons_append, List.nil_append] at i1 i2 i3 i4 ⊢
  have hHl := i3.1
  by_cases hi : i < N
  · repeat (first | exact endA | refine wkP ?_ | refine opB (fun b => ?_) | refine opA (fun a' c' hc1 hc2 => ?_) | (apply GJ.and; exact rfl; intro hg) | (apply GJ.or; exact rfl; intro hg))
    refine dlen_ok hq3 ?_
    rw [hN]
    repeat (first | exact endA | refine wkP ?_ | refine opB (fun b => ?_) | refine opA (fun a' c' hc1 hc2 => ?_) | (apply GJ.and; exact rfl; intro hg) | (apply GJ.or; exact rfl; intro hg))
    obtain ⟨bX, hbX⟩ : ∃ z : Nat, z = b := ⟨_, rfl⟩
    subst hbX
    refine OpOk.storeSlAt' (k := i) rfl rfl rfl rfl (by rw [Int.toNat_natCast]) (by omega) ?_
    rw [show ((N : Nat) : Int).toNat = N from Int.toNat_natCast N, bools_zero]
    have hH2 := i3.snoc (by omega) (some ⟨bX, 0, none⟩) (baseR D i)
    rw [i2] at hH2
    have hg2 := hH2.2 i (some ⟨bX, 0, none⟩) (baseR D i) (by rw [← i2]; exact snoc_new _ _)
    have hl2' := hH2.1
    generalize H.set i (Value.slice (some ⟨bX, 0, none⟩) N N) = H2 at *
    repeat (first | exact endA | refine wkP ?_ | refine opB (fun b => ?_) | refine opA (fun a' c' hc1 hc2 => ?_) | (apply GJ.and; exact rfl; intro hg) | (apply GJ.or; exact rfl; intro hg))
    refine OpOk.load rfl rfl (Ld.slAt' (k := i) (by rw [Int.toNat_natCast]) hg2) ?_
    repeat (first | exact endA | refine wkP ?_ | refine opB (fun b => ?_) | refine opA (fun a' c' hc1 hc2 => ?_) | (apply GJ.and; exact rfl; intro hg) | (apply GJ.or; exact rfl; intro hg))
    refine LoopOk.at (ι := Nat) Keep.auto (fun k => [(63, .int .i64 (k : Int))]) (fun k => .sl (some ⟨bX, 0, none⟩) N N 4 1 (boolsV ((baseR D i).take k ++ List.replicate (N - k) false)) :: .sl (some ⟨bH, 0, none⟩) N N 38 1 H2 :: (R.map (rowB N) ++ own)) (fun k => k ≤ N) (fun k => N - k) 0 ?_ Sub.auto Sup.auto ?_
    · exact Nat.zero_le _
    intro k k1
    dsimp only [List.cons_append, List.nil_append] at k1 ⊢
    have hbl := baseR_len D i
    rw [hN] at hbl
    have hfl := fill_len (z := false) hbl k1
    have hfv := boolsV_len ((baseR D i).take k ++ List.replicate (N - k) false)
    by_cases hkN : k < N
    · have hgv := baseR_get (a := D) (i := i) (k := k) (by omega)
      have hfs := fill_set (z := false) hbl hgv
      repeat (first | exact endA | refine wkP ?_ | refine opB (fun b => ?_) | refine opA (fun a' c' hc1 hc2 => ?_) | (apply GJ.and; exact rfl; intro hg) | (apply GJ.or; exact rfl; intro hg))
      refine QOk.load rfl rfl (Ld.slAt' (k := i) (by rw [Int.toNat_natCast]) hg2) ?_
      repeat (first | exact endA | refine wkP ?_ | refine opB (fun b => ?_) | refine opA (fun a' c' hc1 hc2 => ?_) | (apply GJ.and; exact rfl; intro hg) | (apply GJ.or; exact rfl; intro hg))
      refine dends_ok hq3 ?_
      repeat (first | exact endA | refine wkP ?_ | refine opB (fun b => ?_) | refine opA (fun a' c' hc1 hc2 => ?_) | (apply GJ.and; exact rfl; intro hg) | (apply GJ.or; exact rfl; intro hg))
      refine dends_ok hq3 ?_
      repeat (first | exact endA | refine wkP ?_ | refine opB (fun b => ?_) | refine opA (fun a' c' hc1 hc2 => ?_) | (apply GJ.and; exact rfl; intro hg) | (apply GJ.or; exact rfl; intro hg))
      refine OpOk.storeSlAt' (k := k) rfl rfl rfl rfl (by rw [Int.toNat_natCast]) (by omega) ?_
      rw [boolsV_set, show decide (endsA D (i : Int) ≠ endsA D (k : Int)) = (endsA D (i : Int) != endsA D (k : Int)) by cases endsA D (i : Int) <;> cases endsA D (k : Int) <;> rfl, hfs]
      repeat (first | exact endA | refine wkP ?_ | refine opB (fun b => ?_) | refine opA (fun a' c' hc1 hc2 => ?_) | (apply GJ.and; exact rfl; intro hg) | (apply GJ.or; exact rfl; intro hg))
      refine Wk.id ⟨k + 1, ⟨rfl, ?_⟩, ?_, Sub.auto, Sup.auto⟩
      all_goals try dsimp only
      · omega
      · omega
    · obtain rfl : N = k := by omega
      rw [List.take_of_length_le (by omega), Nat.sub_self, List.replicate_zero, List.append_nil]
      repeat (first | exact endA | refine wkP ?_ | refine opB (fun b => ?_) | refine opA (fun a' c' hc1 hc2 => ?_) | (apply GJ.and; exact rfl; intro hg) | (apply GJ.or; exact rfl; intro hg))
      refine Wk.perm ((List.Perm.swap _ _ _).trans (List.Perm.cons _ (rowsB_snoc N R (some ⟨bX, 0, none⟩, baseR D i) own))) ?_
      refine Wk.id ⟨(i + 1, R ++ [(some ⟨bX, 0, none⟩, baseR D i)], H2), ⟨rfl, ?_⟩, ?_, Sub.auto, Sup.auto⟩
      all_goals try dsimp only
      · refine ⟨by omega, by simp [i2], hH2, ?_⟩
        unfold matsB at i4 ⊢
        rw [List.map_append, i4, List.range_succ, List.map_append]; rfl
      · omega
  · obtain rfl : N = i := by omega
    have hb := base_ok (a := D)
    rw [hN, ← i4] at hb
    rw [← hN] at hb
    clear i4 i2 i1 hHl
    repeat (first | exact endA | refine wkP ?_ | refine opB (fun b => ?_) | refine opA (fun a' c' hc1 hc2 => ?_) | (apply GJ.and; exact rfl; intro hg) | (apply GJ.or; exact rfl; intro hg))
    refine LoopOk.at (ι := Bool × List RowB) Keep.auto (fun (more, R) => [(9, .bool more)]) (fun (more, R) => .sl (some ⟨bH, 0, none⟩) N N 38 1 H :: (R.map (rowB N) ++ own)) (fun (more, R) => HdrB N R H ∧ MatOk D.next.length (matsB R) ∧ BaseM D (matsB R) ∧ (more = false → ApartF D (matsB R))) (fun (more, R) => 2 * (N * N - cntM (matsB R)) + (bif more then 1 else 0)) (true, R) ?_ Sub.auto Sup.auto ?_
    · exact ⟨i3, hb.1, hb.2, fun h => by cases h⟩
    clear hb i3 R hi
    rintro ⟨more, R⟩ ⟨m1, m2, m3, m4⟩
    dsimp only [List.cons_append, List.nil_append] at m1 m2 m3 m4 ⊢
    have hHl := m1.1
    cases more with
    | true =>
      obtain ⟨M0, hM0⟩ : ∃ M0, M0 = matsB R := ⟨_, rfl⟩
      have hR0 := Rnd.start m2 m3
      clear m2 m3 m4
      repeat (first | exact endA | refine wkP ?_ | refine opB (fun b => ?_) | refine opA (fun a' c' hc1 hc2 => ?_) | (apply GJ.and; exact rfl; intro hg) | (apply GJ.or; exact rfl; intro hg))
      refine LoopOk.at (ι := Nat × Bool × List RowB) Keep.auto (fun (i, more, R) => [(84, .int .i64 (i : Int)), (9, .bool more)]) (fun (i, more, R) => .sl (some ⟨bH, 0, none⟩) N N 38 1 H :: (R.map (rowB N) ++ own)) (fun (i, more, R) => i ≤ N ∧ HdrB N R H ∧ Rnd D M0 (matsB R) more i 0 0) (fun (i, more, R) => N - i) (0, false, R) ?_ Sub.auto Sup.auto ?_
      · exact ⟨Nat.zero_le _, m1, by rw [hM0]; exact hR0⟩
      clear hR0 m1
      rintro ⟨i, more, R⟩ ⟨n1, n2, n3⟩
      dsimp only [List.cons_append, List.nil_append] at n1 n2 n3 ⊢
      by_cases hi : i < N
      · repeat (first | exact endA | refine wkP ?_ | refine opB (fun b => ?_) | refine opA (fun a' c' hc1 hc2 => ?_) | (apply GJ.and; exact rfl; intro hg) | (apply GJ.or; exact rfl; intro hg))
        refine LoopOk.at (ι := Nat × Bool × List RowB) Keep.auto (fun (k, more, R) => [(89, .int .i64 (k : Int)), (9, .bool more)]) (fun (k, more, R) => .sl (some ⟨bH, 0, none⟩) N N 38 1 H :: (R.map (rowB N) ++ own)) (fun (k, more, R) => k ≤ N ∧ HdrB N R H ∧ Rnd D M0 (matsB R) more i k 0) (fun (k, more, R) => N - k) (0, more, R) ?_ Sub.auto Sup.auto ?_
        · exact ⟨Nat.zero_le _, n2, n3⟩
        clear n2 n3
        rintro ⟨k, more, R⟩ ⟨o1, o2, o3⟩
        dsimp only [List.cons_append, List.nil_append] at o1 o2 o3 ⊢
        by_cases hkN : k < N
        · repeat (first | exact endA | refine wkP ?_ | refine opB (fun b => ?_) | refine opA (fun a' c' hc1 hc2 => ?_) | (apply GJ.and; exact rfl; intro hg) | (apply GJ.or; exact rfl; intro hg))
          refine LoopOk.at (ι := Nat × Bool × List RowB) Keep.auto (fun (c, more, R) => [(92, .int .i64 (c : Int)), (9, .bool more)]) (fun (c, more, R) => .sl (some ⟨bH, 0, none⟩) N N 38 1 H :: (R.map (rowB N) ++ own)) (fun (c, more, R) => c ≤ 256 ∧ HdrB N R H ∧ Rnd D M0 (matsB R) more i k c) (fun (c, more, R) => 256 - c) (0, more, R) ?_ Sub.auto Sup.auto ?_
          · exact ⟨Nat.zero_le _, o2, o3⟩
          clear o2 o3
          rintro ⟨c, more, R⟩ ⟨p1, p2, p3⟩
          dsimp only [List.cons_append, List.nil_append] at p1 p2 p3 ⊢
          by_cases hc : c < 256
          · obtain ⟨ai, li, hri, hli⟩ := mats_row p3.mat (i := i) (by omega)
            have hgi := p2.2 i ai li hri
            have hRl := (List.getElem?_eq_some_iff.1 hri).1
            haveI hsi := HasSl.ofRow (n := N) hri own
            have hmi := mats_get hri k
            have hbi := bangB (l := li) (i := k) (by omega)
            have hliv := boolsV_len li
            cases hp : getM2 (matsB R) i k with
            | true =>
              rw [← hmi, hp] at hbi
              repeat (first | exact endA | refine wkP ?_ | refine opB (fun b => ?_) | refine opA (fun a' c' hc1 hc2 => ?_) | (apply GJ.and; exact rfl; intro hg) | (apply GJ.or; exact rfl; intro hg))
              refine OpOk.load rfl rfl (Ld.slAt' (k := i) (by rw [Int.toNat_natCast]) hgi) ?_
              repeat (first | exact endA | refine wkP ?_ | refine opB (fun b => ?_) | refine opA (fun a' c' hc1 hc2 => ?_))
              rw [hbi]
              repeat (first | exact endA | refine wkP ?_ | refine opB (fun b => ?_) | refine opA (fun a' c' hc1 hc2 => ?_) | (apply GJ.and; exact rfl; intro hg) | (apply GJ.or; exact rfl; intro hg))
              refine Wk.id ⟨(k + 1, more, R), ⟨rfl, ?_⟩, ?_, Sub.auto, Sup.auto⟩
              all_goals try dsimp only
              · exact ⟨by omega, p2, p3.jump (.inl hp)⟩
              · omega
            | false =>
              rw [← hmi, hp] at hbi
              by_cases hik : i = k
              · repeat (first | exact endA | refine wkP ?_ | refine opB (fun b => ?_) | refine opA (fun a' c' hc1 hc2 => ?_) | (apply GJ.and; exact rfl; intro hg) | (apply GJ.or; exact rfl; intro hg))
                refine OpOk.load rfl rfl (Ld.slAt' (k := i) (by rw [Int.toNat_natCast]) hgi) ?_
                repeat (first | exact endA | refine wkP ?_ | refine opB (fun b => ?_) | refine opA (fun a' c' hc1 hc2 => ?_))
                rw [hbi]
                repeat (first | exact endA | refine wkP ?_ | refine opB (fun b => ?_) | refine opA (fun a' c' hc1 hc2 => ?_) | (apply GJ.and; exact rfl; intro hg) | (apply GJ.or; exact rfl; intro hg))
                refine Wk.id ⟨(k + 1, more, R), ⟨rfl, ?_⟩, ?_, Sub.auto, Sup.auto⟩
                all_goals try dsimp only
                · exact ⟨by omega, p2, p3.jump (.inr (.inl hik))⟩
                · omega
              · have hz1 := fun (_ : Unit) => step_to ho (i : Int) hc
                have hz2 := fun (_ : Unit) => step_to ho (k : Int) hc
                have hskip := p3.skip
                have hput := p3.put (by omega) (by omega) hp
                rw [← mats_put hri] at hput
                unfold ClosedP at hskip
                repeat (first | exact endA | refine wkP ?_ | refine opB (fun b => ?_) | refine opA (fun a' c' hc1 hc2 => ?_) | (apply GJ.and; exact rfl; intro hg) | (apply GJ.or; exact rfl; intro hg))
                refine OpOk.load rfl rfl (Ld.slAt' (k := i) (by rw [Int.toNat_natCast]) hgi) ?_
                repeat (first | exact endA | refine wkP ?_ | refine opB (fun b => ?_) | refine opA (fun a' c' hc1 hc2 => ?_))
                rw [hbi]
                repeat (first | exact endA | refine wkP ?_ | refine opB (fun b => ?_) | refine opA (fun a' c' hc1 hc2 => ?_) | (apply GJ.and; exact rfl; intro hg) | (apply GJ.or; exact rfl; intro hg))
                refine dstepX_ok (w := w) (c := c) (by omega) hq3 ho hc ?_
                repeat (first | exact endA | refine wkP ?_ | refine opB (fun b => ?_) | refine opA (fun a' c' hc1 hc2 => ?_) | (apply GJ.and; exact rfl; intro hg) | (apply GJ.or; exact rfl; intro hg))
                refine dstepX_ok (w := w) (c := c) (by omega) hq3 ho hc ?_
                generalize stepA D (i : Int) c = z1 at *
                generalize stepA D (k : Int) c = z2 at *
                by_cases hx : z1 < 0
                · by_cases hy : z2 < 0
                  · repeat (first | exact endA | refine wkP ?_ | refine opB (fun b => ?_) | refine opA (fun a' c' hc1 hc2 => ?_))
                    refine GJ.ff (by rw [decide_eq_true hx, decide_eq_true hy]; simp) ?_
                    repeat (first | exact endA | refine wkP ?_ | refine opB (fun b => ?_) | refine opA (fun a' c' hc1 hc2 => ?_) | (apply GJ.and; exact rfl; intro hg) | (apply GJ.or; exact rfl; intro hg))
                    refine Wk.id ⟨(c + 1, more, R), ⟨rfl, ?_⟩, ?_, Sub.auto, Sup.auto⟩
                    all_goals try dsimp only
                    · exact ⟨by omega, p2, hskip (fun _ _ _ => ⟨⟨fun _ => hy, fun _ => hx⟩, fun h => absurd h (by omega)⟩)⟩
                    · omega
                  · repeat (first | exact endA | refine wkP ?_ | refine opB (fun b => ?_) | refine opA (fun a' c' hc1 hc2 => ?_))
                    refine GJ.ft (by rw [decide_eq_true hx, decide_eq_false hy]; simp) ?_
                    repeat (first | exact endA | refine wkP ?_ | refine opB (fun b => ?_) | refine opA (fun a' c' hc1 hc2 => ?_) | (apply GJ.and; exact rfl; intro hg) | (apply GJ.or; exact rfl; intro hg))
                    refine OpOk.load rfl rfl (Ld.slAt' (k := i) (by rw [Int.toNat_natCast]) hgi) ?_
                    repeat (first | exact endA | refine wkP ?_ | refine opB (fun b => ?_) | refine opA (fun a' c' hc1 hc2 => ?_) | (apply GJ.and; exact rfl; intro hg) | (apply GJ.or; exact rfl; intro hg))
                    refine OpOk.storeSlAt' (k := k) rfl rfl rfl rfl (by rw [Int.toNat_natCast]) (by omega) ?_
                    rw [boolsV_set, putB_eq hRl]
                    repeat (first | exact endA | refine wkP ?_ | refine opB (fun b => ?_) | refine opA (fun a' c' hc1 hc2 => ?_) | (apply GJ.and; exact rfl; intro hg) | (apply GJ.or; exact rfl; intro hg))
                    refine Wk.id ⟨(c + 1, true, R.set i (ai, li.set k true)), ⟨rfl, ?_⟩, ?_, Sub.auto, Sup.auto⟩
                    all_goals try dsimp only
                    · exact ⟨by omega, p2.put hri _, hput⟩
                    · omega
                · by_cases hy : z2 < 0
                  · repeat (first | exact endA | refine wkP ?_ | refine opB (fun b => ?_) | refine opA (fun a' c' hc1 hc2 => ?_))
                    refine GJ.ft (by rw [decide_eq_false hx, decide_eq_true hy]; simp) ?_
                    repeat (first | exact endA | refine wkP ?_ | refine opB (fun b => ?_) | refine opA (fun a' c' hc1 hc2 => ?_) | (apply GJ.and; exact rfl; intro hg) | (apply GJ.or; exact rfl; intro hg))
                    refine OpOk.load rfl rfl (Ld.slAt' (k := i) (by rw [Int.toNat_natCast]) hgi) ?_
                    repeat (first | exact endA | refine wkP ?_ | refine opB (fun b => ?_) | refine opA (fun a' c' hc1 hc2 => ?_) | (apply GJ.and; exact rfl; intro hg) | (apply GJ.or; exact rfl; intro hg))
                    refine OpOk.storeSlAt' (k := k) rfl rfl rfl rfl (by rw [Int.toNat_natCast]) (by omega) ?_
                    rw [boolsV_set, putB_eq hRl]
                    repeat (first | exact endA | refine wkP ?_ | refine opB (fun b => ?_) | refine opA (fun a' c' hc1 hc2 => ?_) | (apply GJ.and; exact rfl; intro hg) | (apply GJ.or; exact rfl; intro hg))
                    refine Wk.id ⟨(c + 1, true, R.set i (ai, li.set k true)), ⟨rfl, ?_⟩, ?_, Sub.auto, Sup.auto⟩
                    all_goals try dsimp only
                    · exact ⟨by omega, p2.put hri _, hput⟩
                    · omega
                  · obtain ⟨u, rfl, hul⟩ := (hz1 ()).resolve_left (fun h => hx (by omega))
                    obtain ⟨v, rfl, hvl⟩ := (hz2 ()).resolve_left (fun h => hy (by omega))
                    obtain ⟨au, lu, hru, hlu⟩ := mats_row p3.mat hul
                    have hgu := p2.2 u au lu hru
                    haveI hsu := HasSl.ofRow (n := N) hru own
                    have hbu := bangB (l := lu) (i := v) (by omega)
                    have hmu := mats_get hru v
                    have hluv := boolsV_len lu
                    cases hq : getB lu v with
                    | true =>
                      rw [hq] at hbu
                      repeat (first | exact endA | refine wkP ?_ | refine opB (fun b => ?_) | refine opA (fun a' c' hc1 hc2 => ?_))
                      refine GJ.ff (by rw [decide_eq_false hx, decide_eq_false hy]; simp) ?_
                      repeat (first | exact endA | refine wkP ?_ | refine opB (fun b => ?_) | refine opA (fun a' c' hc1 hc2 => ?_))
                      refine OpOk.load rfl rfl (Ld.slAt' (k := u) (by rw [Int.toNat_natCast]) hgu) ?_
                      repeat (first | exact endA | refine wkP ?_ | refine opB (fun b => ?_) | refine opA (fun a' c' hc1 hc2 => ?_))
                      rw [hbu]
                      repeat (first | exact endA | refine wkP ?_ | refine opB (fun b => ?_) | refine opA (fun a' c' hc1 hc2 => ?_) | (apply GJ.and; exact rfl; intro hg) | (apply GJ.or; exact rfl; intro hg))
                      refine OpOk.load rfl rfl (Ld.slAt' (k := i) (by rw [Int.toNat_natCast]) hgi) ?_
                      repeat (first | exact endA | refine wkP ?_ | refine opB (fun b => ?_) | refine opA (fun a' c' hc1 hc2 => ?_) | (apply GJ.and; exact rfl; intro hg) | (apply GJ.or; exact rfl; intro hg))
                      refine OpOk.storeSlAt' (k := k) rfl rfl rfl rfl (by rw [Int.toNat_natCast]) (by omega) ?_
                      rw [boolsV_set, putB_eq hRl]
                      repeat (first | exact endA | refine wkP ?_ | refine opB (fun b => ?_) | refine opA (fun a' c' hc1 hc2 => ?_) | (apply GJ.and; exact rfl; intro hg) | (apply GJ.or; exact rfl; intro hg))
                      refine Wk.id ⟨(c + 1, true, R.set i (ai, li.set k true)), ⟨rfl, ?_⟩, ?_, Sub.auto, Sup.auto⟩
                      all_goals try dsimp only
                      · exact ⟨by omega, p2.put hri _, hput⟩
                      · omega
                    | false =>
                      rw [hq] at hbu hmu
                      repeat (first | exact endA | refine wkP ?_ | refine opB (fun b => ?_) | refine opA (fun a' c' hc1 hc2 => ?_))
                      refine GJ.ff (by rw [decide_eq_false hx, decide_eq_false hy]; simp) ?_
                      repeat (first | exact endA | refine wkP ?_ | refine opB (fun b => ?_) | refine opA (fun a' c' hc1 hc2 => ?_))
                      refine OpOk.load rfl rfl (Ld.slAt' (k := u) (by rw [Int.toNat_natCast]) hgu) ?_
                      repeat (first | exact endA | refine wkP ?_ | refine opB (fun b => ?_) | refine opA (fun a' c' hc1 hc2 => ?_))
                      rw [hbu]
                      repeat (first | exact endA | refine wkP ?_ | refine opB (fun b => ?_) | refine opA (fun a' c' hc1 hc2 => ?_) | (apply GJ.and; exact rfl; intro hg) | (apply GJ.or; exact rfl; intro hg))
                      refine Wk.id ⟨(c + 1, more, R), ⟨rfl, ?_⟩, ?_, Sub.auto, Sup.auto⟩
                      all_goals try dsimp only
                      · exact ⟨by omega, p2, hskip (fun _ _ _ => ⟨⟨fun h => absurd h hx, fun h => absurd h hy⟩, fun _ => hmu⟩)⟩
                      · omega
          · repeat (first | exact endA | refine wkP ?_ | refine opB (fun b => ?_) | refine opA (fun a' c' hc1 hc2 => ?_) | (apply GJ.and; exact rfl; intro hg) | (apply GJ.or; exact rfl; intro hg))
            refine Wk.id ⟨(k + 1, more, R), ⟨rfl, ?_⟩, ?_, Sub.auto, Sup.auto⟩
            all_goals try dsimp only
            · exact ⟨by omega, p2, p3.jump (.inr (.inr (by omega)))⟩
            · omega
        · repeat (first | exact endA | refine wkP ?_ | refine opB (fun b => ?_) | refine opA (fun a' c' hc1 hc2 => ?_) | (apply GJ.and; exact rfl; intro hg) | (apply GJ.or; exact rfl; intro hg))
          refine Wk.id ⟨(i + 1, more, R), ⟨rfl, ?_⟩, ?_, Sub.auto, Sup.auto⟩
          all_goals try dsimp only
          · exact ⟨by omega, o2, o3.row (by omega)⟩
          · omega
      · have hcnt := cntM_le n3.mat.row
        rw [n3.mat.len, hN] at hcnt
        cases more with
        | true =>
          have hg := n3.go rfl
          rw [hM0] at hg
          repeat (first | exact endA | refine wkP ?_ | refine opB (fun b => ?_) | refine opA (fun a' c' hc1 hc2 => ?_) | (apply GJ.and; exact rfl; intro hg) | (apply GJ.or; exact rfl; intro hg))
          refine Wk.id ⟨(true, R), ⟨rfl, ?_⟩, ?_, Sub.auto, Sup.auto⟩
          all_goals try dsimp only
          · exact ⟨n2, n3.mat, n3.base, fun h => by cases h⟩
          · simp only [cond_true]; omega
        | false =>
          have hf := n3.fin (by omega)
          have hs0 := (n3.stay rfl).1
          rw [hM0] at hs0
          repeat (first | exact endA | refine wkP ?_ | refine opB (fun b => ?_) | refine opA (fun a' c' hc1 hc2 => ?_) | (apply GJ.and; exact rfl; intro hg) | (apply GJ.or; exact rfl; intro hg))
          refine Wk.id ⟨(false, R), ⟨rfl, ?_⟩, ?_, Sub.auto, Sup.auto⟩
          all_goals try dsimp only
          · exact ⟨n2, n3.mat, n3.base, fun _ => hf⟩
          · rw [hs0]; simp only [cond_true, cond_false]; omega
    | false =>
      have hap := m4 rfl
      have hall : ∀ i k, i < N → k < N → i ≠ k → getM2 (matsB R) i k = true := fun i k h1 h2 h3 => apart_all hL hap (by omega) (by omega) h3
      clear m3 m4 hap
      repeat (first | exact endA | refine wkP ?_ | refine opB (fun b => ?_) | refine opA (fun a' c' hc1 hc2 => ?_) | (apply GJ.and; exact rfl; intro hg) | (apply GJ.or; exact rfl; intro hg))
      refine LoopOk.at (ι := Nat) Keep.auto (fun i => [(146, .int .i64 (i : Int))]) (fun i => .sl (some ⟨bH, 0, none⟩) N N 38 1 H :: (R.map (rowB N) ++ own)) (fun i => i ≤ N) (fun i => N - i) 0 ?_ Sub.auto Sup.auto ?_
      · exact Nat.zero_le _
      intro i n1
      dsimp only [List.cons_append, List.nil_append] at n1 ⊢
      by_cases hi : i < N
      · obtain ⟨ai, li, hri, hli⟩ := mats_row m2 (i := i) (by omega)
        have hgi := m1.2 i ai li hri
        haveI hsi := HasSl.ofRow (n := N) hri own
        have hliv := boolsV_len li
        repeat (first | exact endA | refine wkP ?_ | refine opB (fun b => ?_) | refine opA (fun a' c' hc1 hc2 => ?_) | (apply GJ.and; exact rfl; intro hg) | (apply GJ.or; exact rfl; intro hg))
        refine LoopOk.at (ι := Nat) Keep.auto (fun k => [(151, .int .i64 (k : Int))]) (fun k => .sl (some ⟨bH, 0, none⟩) N N 38 1 H :: (R.map (rowB N) ++ own)) (fun k => k ≤ N) (fun k => N - k) 0 ?_ Sub.auto Sup.auto ?_
        · exact Nat.zero_le _
        intro k o1
        dsimp only [List.cons_append, List.nil_append] at o1 ⊢
        by_cases hkN : k < N
        · by_cases hik : i = k
          · repeat (first | exact endA | refine wkP ?_ | refine opB (fun b => ?_) | refine opA (fun a' c' hc1 hc2 => ?_) | (apply GJ.and; exact rfl; intro hg) | (apply GJ.or; exact rfl; intro hg))
            refine Wk.id ⟨k + 1, ⟨rfl, ?_⟩, ?_, Sub.auto, Sup.auto⟩
            all_goals try dsimp only
            · omega
            · omega
          · have hbi := (bangB (l := li) (i := k) (by omega)).trans ((mats_get hri k).symm.trans (hall i k hi hkN hik))
            repeat (first | exact endA | refine wkP ?_ | refine opB (fun b => ?_) | refine opA (fun a' c' hc1 hc2 => ?_) | (apply GJ.and; exact rfl; intro hg) | (apply GJ.or; exact rfl; intro hg))
            refine OpOk.load rfl rfl (Ld.slAt' (k := i) (by rw [Int.toNat_natCast]) hgi) ?_
            repeat (first | exact endA | refine wkP ?_ | refine opB (fun b => ?_) | refine opA (fun a' c' hc1 hc2 => ?_))
            rw [hbi]
            repeat (first | exact endA | refine wkP ?_ | refine opB (fun b => ?_) | refine opA (fun a' c' hc1 hc2 => ?_) | (apply GJ.and; exact rfl; intro hg) | (apply GJ.or; exact rfl; intro hg))
            refine Wk.id ⟨k + 1, ⟨rfl, ?_⟩, ?_, Sub.auto, Sup.auto⟩
            all_goals try dsimp only
            · omega
            · omega
        · repeat (first | exact endA | refine wkP ?_ | refine opB (fun b => ?_) | refine opA (fun a' c' hc1 hc2 => ?_) | (apply GJ.and; exact rfl; intro hg) | (apply GJ.or; exact rfl; intro hg))
          refine Wk.id ⟨i + 1, ⟨rfl, ?_⟩, ?_, Sub.auto, Sup.auto⟩
          all_goals try dsimp only
          · omega
          · omega
      · repeat (first | exact endA | refine wkP ?_ | refine opB (fun b => ?_) | refine opA (fun a' c' hc1 hc2 => ?_) | (apply GJ.and; exact rfl; intro hg) | (apply GJ.or; exact rfl; intro hg))
        refine dlen_ok hq3 ?_
        rw [hN]
        by_cases h1 : N = 1
        · repeat (first | exact endA | refine wkP ?_ | refine opB (fun b => ?_) | refine opA (fun a' c' hc1 hc2 => ?_) | (apply GJ.and; exact rfl; intro hg) | (apply GJ.or; exact rfl; intro hg))
          exact Wk.back1 (Sup.drop _ (Sup.rows _ _)) (.refl _) hk
        · obtain ⟨hlv, hmet⟩ := hL.lives.resolve_left (fun h => h1 (by omega))
          repeat (first | exact endA | refine wkP ?_ | refine opB (fun b => ?_) | refine opA (fun a' c' hc1 hc2 => ?_) | (apply GJ.and; exact rfl; intro hg) | (apply GJ.or; exact rfl; intro hg))
          refine lives_ok hq3 ho hL hlv hmet ?_
          repeat (first | exact endA | refine wkP ?_ | refine opB (fun b => ?_) | refine opA (fun a' c' hc1 hc2 => ?_) | (apply GJ.and; exact rfl; intro hg) | (apply GJ.or; exact rfl; intro hg))
          exact Wk.back1 (Sup.drop _ (Sup.rows _ _)) (.refl _) hk
end
end Go.Proofs.YtinbmhbfcoiefaaGreatDoor
end
