/- Texts of a walk, one behind the other. -/
import Derived.Tactics
import Derived.Tactics2
import Derived.Laws.Pointers
import Derived.RegionTactic
import Derived.RegionCalls
import Derived.ChangeAlike
import Derived.Test.YtinbmhbfcoiefaaGreatDoorMg8
import Derived.Test.YtinbmhbfcoiefaaGreatDoorMg9
section
/- Contracts: atomics and the lock, as a Once within a Lazy uses them (eight cells lie ahead of it). -/
namespace Go.Proofs.YtinbmhbfcoiefaaGreatDoor
open Go Go.E
set_option linter.unusedVariables false
set_option maxRecDepth 10000
section
variable {ro : Ro} {own : Chs} {K : Value → Ro → Chs → Prop} {g : Chunk → Chs}
theorem bload_ok {b o : Nat} {x : Int} (hl : Ld ro own b o (.int .u32 x)) (hk : K (.bool (decide (x ≠ 0))) ro own) : CallOk Tryz.prog 61 #[.pointer (some ⟨b, o, none⟩)] ro own K := by
  refine CallOk.intro (args := [_]) (rs := [_]) T_ok Tryz.func61 Tryz.call61 rfl rfl (by kernel_rfl) rfl rfl ?_
  repeat (first | exact endA | refine wkG ?_ | refine opB (fun b => ?_) | refine opA (fun a' c' hc1 hc2 => ?_) | (show GJ _ _ _ _ _ _ _; first | (apply GJ.and; exact rfl; intro hg) | (apply GJ.or; exact rfl; intro hg) | refine GJ.t omAuto ?_ | refine GJ.f omAuto ?_ | refine GJ.ft omAuto ?_ | refine GJ.ff omAuto ?_))
  refine CallOk.aload Tryz.func80 (by kernel_rfl) (by kernel_rfl) (by kernel_rfl) .u32 (by kernel_rfl) (x := x) (by simpa using hl) ?_
  repeat (first | exact endA | refine wkG ?_ | refine opB (fun b => ?_) | refine opA (fun a' c' hc1 hc2 => ?_) | (show GJ _ _ _ _ _ _ _; first | (apply GJ.and; exact rfl; intro hg) | (apply GJ.or; exact rfl; intro hg) | refine GJ.t omAuto ?_ | refine GJ.f omAuto ?_ | refine GJ.ft omAuto ?_ | refine GJ.ff omAuto ?_))
  exact Wk.id hk
theorem b32_ok (hk : K (.int .u32 1) ro own) : CallOk Tryz.prog 93 #[.bool true] ro own K := by
  refine CallOk.intro (args := [_]) (rs := [_]) T_ok Tryz.func93 Tryz.call93 rfl rfl (by kernel_rfl) rfl rfl ?_
  repeat (first | exact endA | refine wkG ?_ | refine opB (fun b => ?_) | refine opA (fun a' c' hc1 hc2 => ?_) | (show GJ _ _ _ _ _ _ _; first | (apply GJ.and; exact rfl; intro hg) | (apply GJ.or; exact rfl; intro hg) | refine GJ.t omAuto ?_ | refine GJ.f omAuto ?_ | refine GJ.ft omAuto ?_ | refine GJ.ff omAuto ?_))
  exact Wk.id hk
theorem lock_ok {b : Nat} {t : TypeId} {z0 z1 z2 z3 z4 z5 z6 z7 d sm : Value} {rest : List Value} [hb : HasBlk own b t (z0 :: z1 :: z2 :: z3 :: z4 :: z5 :: z6 :: z7 :: d :: .int .i32 0 :: sm :: rest) g] (hk : K (.tuple #[]) ro (g (.blk b t (z0 :: z1 :: z2 :: z3 :: z4 :: z5 :: z6 :: z7 :: d :: .int .i32 1 :: sm :: rest)))) : CallOk Tryz.prog 90 #[.pointer (some ⟨b, 9, none⟩)] ro own K := by
  obtain ⟨r, p1, p2⟩ := hb.split
  refine CallOk.perm p1 ?_
  clear hb
  refine CallOk.intro (args := [_]) (rs := []) T_ok Tryz.func90 Tryz.call90 rfl rfl (by kernel_rfl) rfl rfl ?_
  repeat (first | exact endA | refine wkG ?_ | refine opB (fun b => ?_) | refine opA (fun a' c' hc1 hc2 => ?_) | (show GJ _ _ _ _ _ _ _; first | (apply GJ.and; exact rfl; intro hg) | (apply GJ.or; exact rfl; intro hg) | refine GJ.t omAuto ?_ | refine GJ.f omAuto ?_ | refine GJ.ft omAuto ?_ | refine GJ.ff omAuto ?_))
  refine CallOk.mark0 Tryz.func98 (by kernel_rfl) (by kernel_rfl) (by kernel_rfl) .disable (by kernel_rfl) ?_
  repeat (first | exact endA | refine wkG ?_ | refine opB (fun b => ?_) | refine opA (fun a' c' hc1 hc2 => ?_) | (show GJ _ _ _ _ _ _ _; first | (apply GJ.and; exact rfl; intro hg) | (apply GJ.or; exact rfl; intro hg) | refine GJ.t omAuto ?_ | refine GJ.f omAuto ?_ | refine GJ.ft omAuto ?_ | refine GJ.ff omAuto ?_))
  refine CallOk.acas Tryz.func99 (by kernel_rfl) (by kernel_rfl) (by kernel_rfl) .i32 (by kernel_rfl) rfl (.miss _ (.miss _ (.miss _ (.miss _ (.miss _ (.miss _ (.miss _ (.miss _ (.miss _ (.hit _ _ _)))))))))) ?_
  repeat (first | exact endA | refine wkG ?_ | refine opB (fun b => ?_) | refine opA (fun a' c' hc1 hc2 => ?_) | (show GJ _ _ _ _ _ _ _; first | (apply GJ.and; exact rfl; intro hg) | (apply GJ.or; exact rfl; intro hg) | refine GJ.t omAuto ?_ | refine GJ.f omAuto ?_ | refine GJ.ft omAuto ?_ | refine GJ.ff omAuto ?_))
  refine SeqOk.pass ?_
  repeat (first | exact endA | refine wkG ?_ | refine opB (fun b => ?_) | refine opA (fun a' c' hc1 hc2 => ?_) | (show GJ _ _ _ _ _ _ _; first | (apply GJ.and; exact rfl; intro hg) | (apply GJ.or; exact rfl; intro hg) | refine GJ.t omAuto ?_ | refine GJ.f omAuto ?_ | refine GJ.ft omAuto ?_ | refine GJ.ff omAuto ?_))
  refine CallOk.mark0 Tryz.func100 (by kernel_rfl) (by kernel_rfl) (by kernel_rfl) .enable (by kernel_rfl) ?_
  repeat (first | exact endA | refine wkG ?_ | refine opB (fun b => ?_) | refine opA (fun a' c' hc1 hc2 => ?_) | (show GJ _ _ _ _ _ _ _; first | (apply GJ.and; exact rfl; intro hg) | (apply GJ.or; exact rfl; intro hg) | refine GJ.t omAuto ?_ | refine GJ.f omAuto ?_ | refine GJ.ft omAuto ?_ | refine GJ.ff omAuto ?_))
  refine OpOk.unsafe rfl rfl (by kernel_rfl) (by kernel_rfl) (by exact Ld.hasBlk rfl) ?_
  repeat (first | exact endA | refine wkG ?_ | refine opB (fun b => ?_) | refine opA (fun a' c' hc1 hc2 => ?_) | (show GJ _ _ _ _ _ _ _; first | (apply GJ.and; exact rfl; intro hg) | (apply GJ.or; exact rfl; intro hg) | refine GJ.t omAuto ?_ | refine GJ.f omAuto ?_ | refine GJ.ft omAuto ?_ | refine GJ.ff omAuto ?_))
  refine CallOk.marked Tryz.func101 (by kernel_rfl) (by kernel_rfl) (by kernel_rfl) .acquire (by kernel_rfl) ?_
  repeat (first | exact endA | refine wkG ?_ | refine opB (fun b => ?_) | refine opA (fun a' c' hc1 hc2 => ?_) | (show GJ _ _ _ _ _ _ _; first | (apply GJ.and; exact rfl; intro hg) | (apply GJ.or; exact rfl; intro hg) | refine GJ.t omAuto ?_ | refine GJ.f omAuto ?_ | refine GJ.ft omAuto ?_ | refine GJ.ff omAuto ?_))
  exact Wk.out (p2 _) hk
theorem ilock_ok {b : Nat} {t : TypeId} {z0 z1 z2 z3 z4 z5 z6 z7 d sm : Value} {rest : List Value} [hb : HasBlk own b t (z0 :: z1 :: z2 :: z3 :: z4 :: z5 :: z6 :: z7 :: d :: .int .i32 0 :: sm :: rest) g] (hk : K (.tuple #[]) ro (g (.blk b t (z0 :: z1 :: z2 :: z3 :: z4 :: z5 :: z6 :: z7 :: d :: .int .i32 1 :: sm :: rest)))) : CallOk Tryz.prog 81 #[.pointer (some ⟨b, 9, none⟩)] ro own K := by
  refine CallOk.intro (args := [_]) (rs := []) T_ok Tryz.func81 Tryz.call81 rfl rfl (by kernel_rfl) rfl rfl ?_
  repeat (first | exact endA | refine wkG ?_ | refine opB (fun b => ?_) | refine opA (fun a' c' hc1 hc2 => ?_) | (show GJ _ _ _ _ _ _ _; first | (apply GJ.and; exact rfl; intro hg) | (apply GJ.or; exact rfl; intro hg) | refine GJ.t omAuto ?_ | refine GJ.f omAuto ?_ | refine GJ.ft omAuto ?_ | refine GJ.ff omAuto ?_))
  refine lock_ok ?_
  repeat (first | exact endA | refine wkG ?_ | refine opB (fun b => ?_) | refine opA (fun a' c' hc1 hc2 => ?_) | (show GJ _ _ _ _ _ _ _; first | (apply GJ.and; exact rfl; intro hg) | (apply GJ.or; exact rfl; intro hg) | refine GJ.t omAuto ?_ | refine GJ.f omAuto ?_ | refine GJ.ft omAuto ?_ | refine GJ.ff omAuto ?_))
  exact Wk.id hk
theorem unlock_ok {b : Nat} {t : TypeId} {z0 z1 z2 z3 z4 z5 z6 z7 d sm : Value} {rest : List Value} [hb : HasBlk own b t (z0 :: z1 :: z2 :: z3 :: z4 :: z5 :: z6 :: z7 :: d :: .int .i32 1 :: sm :: rest) g] (hk : K (.tuple #[]) ro (g (.blk b t (z0 :: z1 :: z2 :: z3 :: z4 :: z5 :: z6 :: z7 :: d :: .int .i32 0 :: sm :: rest)))) : CallOk Tryz.prog 91 #[.pointer (some ⟨b, 9, none⟩)] ro own K := by
  obtain ⟨r, p1, p2⟩ := hb.split
  refine CallOk.perm p1 ?_
  clear hb
  refine CallOk.intro (args := [_]) (rs := []) T_ok Tryz.func91 Tryz.call91 rfl rfl (by kernel_rfl) rfl rfl ?_
  repeat (first | exact endA | refine wkG ?_ | refine opB (fun b => ?_) | refine opA (fun a' c' hc1 hc2 => ?_) | (show GJ _ _ _ _ _ _ _; first | (apply GJ.and; exact rfl; intro hg) | (apply GJ.or; exact rfl; intro hg) | refine GJ.t omAuto ?_ | refine GJ.f omAuto ?_ | refine GJ.ft omAuto ?_ | refine GJ.ff omAuto ?_))
  refine SeqOk.pass ?_
  repeat (first | exact endA | refine wkG ?_ | refine opB (fun b => ?_) | refine opA (fun a' c' hc1 hc2 => ?_) | (show GJ _ _ _ _ _ _ _; first | (apply GJ.and; exact rfl; intro hg) | (apply GJ.or; exact rfl; intro hg) | refine GJ.t omAuto ?_ | refine GJ.f omAuto ?_ | refine GJ.ft omAuto ?_ | refine GJ.ff omAuto ?_))
  refine OpOk.unsafe rfl rfl (by kernel_rfl) (by kernel_rfl) (by exact Ld.hasBlk rfl) ?_
  repeat (first | exact endA | refine wkG ?_ | refine opB (fun b => ?_) | refine opA (fun a' c' hc1 hc2 => ?_) | (show GJ _ _ _ _ _ _ _; first | (apply GJ.and; exact rfl; intro hg) | (apply GJ.or; exact rfl; intro hg) | refine GJ.t omAuto ?_ | refine GJ.f omAuto ?_ | refine GJ.ft omAuto ?_ | refine GJ.ff omAuto ?_))
  refine CallOk.marked Tryz.func103 (by kernel_rfl) (by kernel_rfl) (by kernel_rfl) .releaseMerge (by kernel_rfl) ?_
  repeat (first | exact endA | refine wkG ?_ | refine opB (fun b => ?_) | refine opA (fun a' c' hc1 hc2 => ?_) | (show GJ _ _ _ _ _ _ _; first | (apply GJ.and; exact rfl; intro hg) | (apply GJ.or; exact rfl; intro hg) | refine GJ.t omAuto ?_ | refine GJ.f omAuto ?_ | refine GJ.ft omAuto ?_ | refine GJ.ff omAuto ?_))
  refine CallOk.mark0 Tryz.func98 (by kernel_rfl) (by kernel_rfl) (by kernel_rfl) .disable (by kernel_rfl) ?_
  repeat (first | exact endA | refine wkG ?_ | refine opB (fun b => ?_) | refine opA (fun a' c' hc1 hc2 => ?_) | (show GJ _ _ _ _ _ _ _; first | (apply GJ.and; exact rfl; intro hg) | (apply GJ.or; exact rfl; intro hg) | refine GJ.t omAuto ?_ | refine GJ.f omAuto ?_ | refine GJ.ft omAuto ?_ | refine GJ.ff omAuto ?_))
  refine CallOk.aadd Tryz.func63 (by kernel_rfl) (by kernel_rfl) (by kernel_rfl) .i32 (by kernel_rfl) (s := 0) rfl (by decide) (.miss _ (.miss _ (.miss _ (.miss _ (.miss _ (.miss _ (.miss _ (.miss _ (.miss _ (.hit _ _ _)))))))))) ?_
  repeat (first | exact endA | refine wkG ?_ | refine opB (fun b => ?_) | refine opA (fun a' c' hc1 hc2 => ?_) | (show GJ _ _ _ _ _ _ _; first | (apply GJ.and; exact rfl; intro hg) | (apply GJ.or; exact rfl; intro hg) | refine GJ.t omAuto ?_ | refine GJ.f omAuto ?_ | refine GJ.ft omAuto ?_ | refine GJ.ff omAuto ?_))
  refine SeqOk.pass ?_
  repeat (first | exact endA | refine wkG ?_ | refine opB (fun b => ?_) | refine opA (fun a' c' hc1 hc2 => ?_) | (show GJ _ _ _ _ _ _ _; first | (apply GJ.and; exact rfl; intro hg) | (apply GJ.or; exact rfl; intro hg) | refine GJ.t omAuto ?_ | refine GJ.f omAuto ?_ | refine GJ.ft omAuto ?_ | refine GJ.ff omAuto ?_))
  refine CallOk.mark0 Tryz.func100 (by kernel_rfl) (by kernel_rfl) (by kernel_rfl) .enable (by kernel_rfl) ?_
  repeat (first | exact endA | refine wkG ?_ | refine opB (fun b => ?_) | refine opA (fun a' c' hc1 hc2 => ?_) | (show GJ _ _ _ _ _ _ _; first | (apply GJ.and; exact rfl; intro hg) | (apply GJ.or; exact rfl; intro hg) | refine GJ.t omAuto ?_ | refine GJ.f omAuto ?_ | refine GJ.ft omAuto ?_ | refine GJ.ff omAuto ?_))
  exact Wk.out (p2 _) hk
theorem bstoreD_ok {b o : Nat} {t : TypeId} {cs cs' : List Value} [hb : HasBlk own b t cs g] (hs : SetR cs o (.int .u32 1) cs') (hk : K (.tuple #[]) ro (g (.blk b t cs'))) : DefOk Tryz.prog 83 #[.pointer (some ⟨b, o, none⟩), .bool true] ro own K := by
  refine DefOk.intro (args := [_, _]) (rs := []) T_ok Tryz.func83 Tryz.call83 rfl rfl (by kernel_rfl) rfl rfl ?_
  repeat (first | exact endA | refine wkG ?_ | refine opB (fun b => ?_) | refine opA (fun a' c' hc1 hc2 => ?_) | (show GJ _ _ _ _ _ _ _; first | (apply GJ.and; exact rfl; intro hg) | (apply GJ.or; exact rfl; intro hg) | refine GJ.t omAuto ?_ | refine GJ.f omAuto ?_ | refine GJ.ft omAuto ?_ | refine GJ.ff omAuto ?_))
  refine Bs.all ?_
  repeat (first | exact endA | refine wkG ?_ | refine opB (fun b => ?_) | refine opA (fun a' c' hc1 hc2 => ?_) | (show GJ _ _ _ _ _ _ _; first | (apply GJ.and; exact rfl; intro hg) | (apply GJ.or; exact rfl; intro hg) | refine GJ.t omAuto ?_ | refine GJ.f omAuto ?_ | refine GJ.ft omAuto ?_ | refine GJ.ff omAuto ?_))
  refine b32_ok ?_
  repeat (first | exact endA | refine wkG ?_ | refine opB (fun b => ?_) | refine opA (fun a' c' hc1 hc2 => ?_) | (show GJ _ _ _ _ _ _ _; first | (apply GJ.and; exact rfl; intro hg) | (apply GJ.or; exact rfl; intro hg) | refine GJ.t omAuto ?_ | refine GJ.f omAuto ?_ | refine GJ.ft omAuto ?_ | refine GJ.ff omAuto ?_))
  refine CallOk.astore Tryz.func92 (by kernel_rfl) (by kernel_rfl) (by kernel_rfl) (by kernel_rfl) (by simpa using hs) ?_
  repeat (first | exact endA | refine wkG ?_ | refine opB (fun b => ?_) | refine opA (fun a' c' hc1 hc2 => ?_) | (show GJ _ _ _ _ _ _ _; first | (apply GJ.and; exact rfl; intro hg) | (apply GJ.or; exact rfl; intro hg) | refine GJ.t omAuto ?_ | refine GJ.f omAuto ?_ | refine GJ.ft omAuto ?_ | refine GJ.ff omAuto ?_))
  exact Wk.id hk
theorem iunlockD_ok {b : Nat} {t : TypeId} {z0 z1 z2 z3 z4 z5 z6 z7 d sm : Value} {rest : List Value} [hb : HasBlk own b t (z0 :: z1 :: z2 :: z3 :: z4 :: z5 :: z6 :: z7 :: d :: .int .i32 1 :: sm :: rest) g] (hk : K (.tuple #[]) ro (g (.blk b t (z0 :: z1 :: z2 :: z3 :: z4 :: z5 :: z6 :: z7 :: d :: .int .i32 0 :: sm :: rest)))) : DefOk Tryz.prog 82 #[.pointer (some ⟨b, 9, none⟩)] ro own K := by
  refine DefOk.intro (args := [_]) (rs := []) T_ok Tryz.func82 Tryz.call82 rfl rfl (by kernel_rfl) rfl rfl ?_
  repeat (first | exact endA | refine wkG ?_ | refine opB (fun b => ?_) | refine opA (fun a' c' hc1 hc2 => ?_) | (show GJ _ _ _ _ _ _ _; first | (apply GJ.and; exact rfl; intro hg) | (apply GJ.or; exact rfl; intro hg) | refine GJ.t omAuto ?_ | refine GJ.f omAuto ?_ | refine GJ.ft omAuto ?_ | refine GJ.ff omAuto ?_))
  refine unlock_ok ?_
  repeat (first | exact endA | refine wkG ?_ | refine opB (fun b => ?_) | refine opA (fun a' c' hc1 hc2 => ?_) | (show GJ _ _ _ _ _ _ _; first | (apply GJ.and; exact rfl; intro hg) | (apply GJ.or; exact rfl; intro hg) | refine GJ.t omAuto ?_ | refine GJ.f omAuto ?_ | refine GJ.ft omAuto ?_ | refine GJ.ff omAuto ?_))
  exact Wk.id hk
end
end Go.Proofs.YtinbmhbfcoiefaaGreatDoor
end
section
/- Contracts: the slow road of a Once within a Lazy (two calls are deferred), and Do. -/
namespace Go.Proofs.YtinbmhbfcoiefaaGreatDoor
open Go Go.E
set_option linter.unusedVariables false
set_option maxRecDepth 100000
set_option maxHeartbeats 1600000
section
variable {ro : Ro} {own r : Chs} {K : Value → Ro → Chs → Prop} {g : Chunk → Chs}
theorem slow_calls {b pl : Nat} {t : TypeId} {z0 z1 z2 z3 z4 z5 z6 z7 sm : Value} {rest : List Value} {Ψ : Ro → List Value → Chs → Prop} (w : World) (hs : Sat ro (.blk b t (z0 :: z1 :: z2 :: z3 :: z4 :: z5 :: z6 :: z7 :: .int .u32 0 :: .int .i32 0 :: sm :: rest) :: r) w.heap)
    (hfun : CallOk Tryz.prog 38 #[ptr' pl] ro (.blk b t (z0 :: z1 :: z2 :: z3 :: z4 :: z5 :: z6 :: z7 :: .int .u32 0 :: .int .i32 1 :: sm :: rest) :: r) (fun v ro' own' => v = .tuple #[] ∧ ∃ rest' r', own' = .blk b t (z0 :: z1 :: z2 :: z3 :: z4 :: z5 :: z6 :: z7 :: .int .u32 0 :: .int .i32 1 :: sm :: rest') :: r' ∧ Ψ ro' rest' r'))
    (hk : ∀ ro' rest' r', Le ro ro' → Ψ ro' rest' r' → K (.tuple #[]) ro' (.blk b t (z0 :: z1 :: z2 :: z3 :: z4 :: z5 :: z6 :: z7 :: .int .u32 1 :: .int .i32 0 :: sm :: rest') :: r')) :
    Calls Tryz.prog 62 #[.pointer (some ⟨b, 8, none⟩), .func (.func 38) #[] #[ptr' pl]] w (fun e w' => ∃ v, e = .returned v ∧ Post ro K w v w') := by
  have hlock := CallOk.calls Tryz.call81 (show CallOk Tryz.prog 81 #[.pointer (some ⟨b, 9, none⟩)] ro (.blk b t (z0 :: z1 :: z2 :: z3 :: z4 :: z5 :: z6 :: z7 :: .int .u32 0 :: .int .i32 0 :: sm :: rest) :: r) (fun v ro' own' => v = .tuple #[] ∧ ro' = ro ∧ own' = .blk b t (z0 :: z1 :: z2 :: z3 :: z4 :: z5 :: z6 :: z7 :: .int .u32 0 :: .int .i32 1 :: sm :: rest) :: r) by
    refine ilock_ok ?_
    exact ⟨rfl, rfl, rfl⟩) hs
  have hload : ∀ w1 : World, Sat ro (.blk b t (z0 :: z1 :: z2 :: z3 :: z4 :: z5 :: z6 :: z7 :: .int .u32 0 :: .int .i32 1 :: sm :: rest) :: r) w1.heap → Calls Tryz.prog 61 #[.pointer (some ⟨b, 8, none⟩)] w1 (fun e w' => ∃ v, e = .returned v ∧ Post ro (fun v ro' own' => v = .bool false ∧ ro' = ro ∧ own' = .blk b t (z0 :: z1 :: z2 :: z3 :: z4 :: z5 :: z6 :: z7 :: .int .u32 0 :: .int .i32 1 :: sm :: rest) :: r) w1 v w') := fun w1 hs1 =>
    CallOk.calls Tryz.call61 (by
      refine bload_ok (x := 0) (by exact Ld.hasBlk rfl) ?_
      exact ⟨rfl, rfl, rfl⟩) hs1
  have hnot : ∀ (x : Bool) (w : World), (Op.unary .not (.bool x)).run Tryz.prog w = .ok (.bool (!x)) w := fun _ _ => rfl
  have hcl := Tryz.call38
  go_enter_defers Tryz.func62, Tryz.ntmps62
  go_wp2_with (first
    | (go_at_call 81; refine hlock.mono ?_; rintro e w1 ⟨v, rfl, hh1, ro1, own1, hl1, hs1, rfl, rfl, rfl⟩)
    | (go_at_call 61; refine (hload _ (by assumption)).mono ?_; rintro e w2 ⟨v, rfl, hh2, ro2, own2, hl2, hs2, rfl, rfl, rfl⟩)
    | (go_at_call 38; refine (CallOk.calls hcl hfun (by assumption)).mono ?_; rintro e w3 ⟨v, rfl, hh3, ro3, own3, hl3, hs3, rfl, rest', r', rfl, hΨ⟩))
  refine leaves_cons (f := 83) (args := #[.pointer (some ⟨b, 8, none⟩), .bool true]) (by simp) (by simp [go_sem, Tryz.call83]) ?_
  have hst : DefOk Tryz.prog 83 #[.pointer (some ⟨b, 8, none⟩), .bool true] ro3 (.blk b t (z0 :: z1 :: z2 :: z3 :: z4 :: z5 :: z6 :: z7 :: .int .u32 0 :: .int .i32 1 :: sm :: rest') :: r') (fun v ro' own' => v = .tuple #[] ∧ ro' = ro3 ∧ own' = .blk b t (z0 :: z1 :: z2 :: z3 :: z4 :: z5 :: z6 :: z7 :: .int .u32 1 :: .int .i32 1 :: sm :: rest') :: r') := by
    refine bstoreD_ok (.miss _ (.miss _ (.miss _ (.miss _ (.miss _ (.miss _ (.miss _ (.miss _ (.hit _ _ _))))))))) ?_
    exact ⟨rfl, rfl, rfl⟩
  refine (hst.run w3 _ hs3).mono ?_
  rintro e u' w4 ⟨rfl, v, rfl, hh4, ro4, own4, hl4, hs4, rfl, rfl, rfl⟩
  refine leaves_cons (f := 82) (args := #[.pointer (some ⟨b, 9, none⟩)]) (by simp [settle]) (by simp [go_sem, Tryz.call82]) ?_
  have hul : DefOk Tryz.prog 82 #[.pointer (some ⟨b, 9, none⟩)] ro4 (.blk b t (z0 :: z1 :: z2 :: z3 :: z4 :: z5 :: z6 :: z7 :: .int .u32 1 :: .int .i32 1 :: sm :: rest') :: r') (fun v ro' own' => v = .tuple #[] ∧ ro' = ro4 ∧ own' = .blk b t (z0 :: z1 :: z2 :: z3 :: z4 :: z5 :: z6 :: z7 :: .int .u32 1 :: .int .i32 0 :: sm :: rest') :: r') := by
    refine iunlockD_ok ?_
    exact ⟨rfl, rfl, rfl⟩
  refine (hul.run w4 _ hs4).mono ?_
  rintro e u' w5 ⟨rfl, v, rfl, hh5, ro5, own5, hl5, hs5, rfl, rfl, rfl⟩
  have hhp : Hp w5.heap w w5 := ((((hh1.trans hh2).trans hh3).trans hh4).trans hh5)
  have hfin : ∃ v : Value, Ending.returned (.tuple #[]) = Ending.returned v ∧ Post ro2 K w v w5 := ⟨_, rfl, hhp, ro5, _, hl3, hs5, hk _ _ _ hl3 hΨ⟩
  exact ⟨.tuple #[], by simp [results, Tryz.results62], hfin⟩
theorem slow_ok {b pl : Nat} {t : TypeId} {z0 z1 z2 z3 z4 z5 z6 z7 sm : Value} {rest : List Value} {Ψ : Ro → List Value → Chs → Prop}
    (hfun : CallOk Tryz.prog 38 #[ptr' pl] ro (.blk b t (z0 :: z1 :: z2 :: z3 :: z4 :: z5 :: z6 :: z7 :: .int .u32 0 :: .int .i32 1 :: sm :: rest) :: r) (fun v ro' own' => v = .tuple #[] ∧ ∃ rest' r', own' = .blk b t (z0 :: z1 :: z2 :: z3 :: z4 :: z5 :: z6 :: z7 :: .int .u32 0 :: .int .i32 1 :: sm :: rest') :: r' ∧ Ψ ro' rest' r'))
    (hk : ∀ ro' rest' r', Le ro ro' → Ψ ro' rest' r' → K (.tuple #[]) ro' (.blk b t (z0 :: z1 :: z2 :: z3 :: z4 :: z5 :: z6 :: z7 :: .int .u32 1 :: .int .i32 0 :: sm :: rest') :: r')) :
    CallOk Tryz.prog 62 #[.pointer (some ⟨b, 8, none⟩), .func (.func 38) #[] #[ptr' pl]] ro (.blk b t (z0 :: z1 :: z2 :: z3 :: z4 :: z5 :: z6 :: z7 :: .int .u32 0 :: .int .i32 0 :: sm :: rest) :: r) K :=
  ⟨fun w hs => .inl ⟨Tryz.call62 _ w, slow_calls w hs hfun hk⟩⟩
theorem do_first {b pl : Nat} {t : TypeId} {z0 z1 z2 z3 z4 z5 z6 z7 sm : Value} {rest : List Value} {Ψ : Ro → List Value → Chs → Prop}
    (hfun : CallOk Tryz.prog 38 #[ptr' pl] ro (.blk b t (z0 :: z1 :: z2 :: z3 :: z4 :: z5 :: z6 :: z7 :: .int .u32 0 :: .int .i32 1 :: sm :: rest) :: r) (fun v ro' own' => v = .tuple #[] ∧ ∃ rest' r', own' = .blk b t (z0 :: z1 :: z2 :: z3 :: z4 :: z5 :: z6 :: z7 :: .int .u32 0 :: .int .i32 1 :: sm :: rest') :: r' ∧ Ψ ro' rest' r'))
    (hk : ∀ ro' rest' r', Le ro ro' → Ψ ro' rest' r' → K (.tuple #[]) ro' (.blk b t (z0 :: z1 :: z2 :: z3 :: z4 :: z5 :: z6 :: z7 :: .int .u32 1 :: .int .i32 0 :: sm :: rest') :: r')) :
    CallOk Tryz.prog 37 #[.pointer (some ⟨b, 8, none⟩), .func (.func 38) #[] #[ptr' pl]] ro (.blk b t (z0 :: z1 :: z2 :: z3 :: z4 :: z5 :: z6 :: z7 :: .int .u32 0 :: .int .i32 0 :: sm :: rest) :: r) K := by
  refine CallOk.intro (args := [_, _]) (rs := []) T_ok Tryz.func37 Tryz.call37 rfl rfl (by kernel_rfl) rfl rfl ?_
  repeat (first | exact endA | refine wkG ?_ | refine opB (fun b => ?_) | refine opA (fun a' c' hc1 hc2 => ?_) | (show GJ _ _ _ _ _ _ _; first | (apply GJ.and; exact rfl; intro hg) | (apply GJ.or; exact rfl; intro hg) | refine GJ.t omAuto ?_ | refine GJ.f omAuto ?_ | refine GJ.ft omAuto ?_ | refine GJ.ff omAuto ?_))
  refine bload_ok (x := 0) (by exact Ld.hasBlk rfl) ?_
  repeat (first | exact endA | refine wkG ?_ | refine opB (fun b => ?_) | refine opA (fun a' c' hc1 hc2 => ?_) | (show GJ _ _ _ _ _ _ _; first | (apply GJ.and; exact rfl; intro hg) | (apply GJ.or; exact rfl; intro hg) | refine GJ.t omAuto ?_ | refine GJ.f omAuto ?_ | refine GJ.ft omAuto ?_ | refine GJ.ff omAuto ?_))
  refine slow_ok hfun (fun ro' rest' r' hl hΨ => ?_)
  repeat (first | exact endA | refine wkG ?_ | refine opB (fun b => ?_) | refine opA (fun a' c' hc1 hc2 => ?_) | (show GJ _ _ _ _ _ _ _; first | (apply GJ.and; exact rfl; intro hg) | (apply GJ.or; exact rfl; intro hg) | refine GJ.t omAuto ?_ | refine GJ.f omAuto ?_ | refine GJ.ft omAuto ?_ | refine GJ.ff omAuto ?_))
  exact Wk.id (hk _ _ _ hl hΨ)
end
end Go.Proofs.YtinbmhbfcoiefaaGreatDoor
end
section
/- Contracts of dfa: Of, Later, Auto, Counts. -/
namespace Go.Proofs.YtinbmhbfcoiefaaGreatDoor
open Go Go.E
set_option linter.unusedVariables false
set_option linter.unusedSimpArgs false
set_option maxRecDepth 10000
/-- Why there is no automaton of an expression (0: there is one), and it. -/
def lstE (n : RgD) : Nat := if (makeN n).1 ≠ 0 then (makeN n).1 else (makeA (makeN n).2).1
def lstD (n : RgD) : DfaA := leastA (makeA (makeN n).2).2
/-- What Of tells first. -/
def OfP (ro : Ro) (n : RgD) (P : Value) : Prop := (lstE n ≠ 0 ∧ P = .pointer none) ∨ (lstE n = 0 ∧ ∃ p, P = ptr' p ∧ DAt ro p (lstD n))
theorem make_check {n : RgD} (h : (makeN n).1 = 0) : (checkD n 512).1 = 0 := by
  unfold makeN at h
  split at h
  · rename_i h1; exact absurd h h1
  · rename_i h1; exact Decidable.of_not_not h1
theorem make_size {n : RgD} (h : (makeN n).1 = 0) : wrongD n = 0 ∧ (setsN (makeN n).2.rows).length ≤ 1000 := by
  obtain ⟨h1, h2, _⟩ := check_zero n 512 (make_check h)
  have := sets_len n
  exact ⟨h1, by omega⟩
section
variable {ro : Ro} {own r : Chs} {K : Value → Ro → Chs → Prop} {g : Chunk → Chs}
theorem dof_ok {n : RgD} {v : List Value} (ht : TabOk ro) (hv : RgOk ro n v) (hk : ∀ ro' P, Le ro ro' → OfP ro' n P → K (.tuple #[P, .int .i64 (lstE n : Int)]) ro' own) :
    CallOk Tryz.prog 20 #[.agg v.toArray] ro own K := by
  have hin := rg_ins hv
  obtain ⟨a1, c1, hvc⟩ := hv.cells
  have hv0 := hv
  subst hvc
  have hK := make_k hin
  refine CallOk.intro (args := [_]) (rs := [_, _]) T_ok Tryz.func20 Tryz.call20 rfl rfl (by kernel_rfl) rfl rfl ?_
  repeat (first | exact endA | refine wkP ?_ | refine opB (fun b => ?_) | refine opA (fun a' c' hc1 hc2 => ?_) | (apply GJ.and; exact rfl; intro hg) | (apply GJ.or; exact rfl; intro hg))
  refine nmake_ok hv0 (fun ro2 v2 hl2 hA => ?_)
  have hA0 := hA
  have hE : lstE n = if (makeN n).1 ≠ 0 then (makeN n).1 else (makeA (makeN n).2).1 := rfl
  have hD : lstD n = leastA (makeA (makeN n).2).2 := rfl
  by_cases h1 : (makeN n).1 = 0
  · obtain ⟨hw, hsl⟩ := make_size h1
    rw [if_neg (by rw [h1]; decide)] at hE
    rw [h1]
    obtain ⟨ad, cp, hs, rfl, hrs, hrw⟩ := hA
    repeat (first | exact endA | refine wkP ?_ | refine opB (fun b => ?_) | refine opA (fun a' c' hc1 hc2 => ?_) | (apply GJ.and; exact rfl; intro hg) | (apply GJ.or; exact rfl; intro hg))
    refine dmake_ok hA0 hK (ht.le hl2) hsl (fun h2 ro3 hl3 => ?_) (fun h2 ro3 p hl3 hp => ?_)
    · rw [← hE] at h2 ⊢
      repeat (first | exact endA | refine wkP ?_ | refine opB (fun b => ?_) | refine opA (fun a' c' hc1 hc2 => ?_) | (apply GJ.and; exact rfl; intro hg) | (apply GJ.or; exact rfl; intro hg))
      exact Wk.outS Sup.auto (.refl _) (hk ro3 _ (hl2.trans hl3) (.inl ⟨h2, rfl⟩))
    · have hm := (made_a2 hK.ok.to hK.sets h2).1
      obtain ⟨w, hw6, ho, hs⟩ := hm.ok
      repeat (first | exact endA | refine wkP ?_ | refine opB (fun b => ?_) | refine opA (fun a' c' hc1 hc2 => ?_) | (apply GJ.and; exact rfl; intro hg) | (apply GJ.or; exact rfl; intro hg))
      refine dleast_ok hp ho hs hw6 hm.pos hm.le (fun ro4 p4 hl4 hp4 => ?_)
      rw [← hD] at hp4
      repeat (first | exact endA | refine wkP ?_ | refine opB (fun b => ?_) | refine opA (fun a' c' hc1 hc2 => ?_) | (apply GJ.and; exact rfl; intro hg) | (apply GJ.or; exact rfl; intro hg))
      have h0 : lstE n = 0 := hE.trans h2
      have := hk ro4 (ptr' p4) ((hl2.trans hl3).trans hl4) (.inr ⟨h0, p4, rfl, hp4⟩)
      rw [h0] at this
      exact Wk.outS Sup.auto (.refl _) this
  · rw [if_pos h1] at hE
    have h2 : lstE n ≠ 0 := by rw [hE]; exact h1
    obtain ⟨ad, cp, hs, rfl, hrs, hrw⟩ := hA
    rw [← hE]
    repeat (first | exact endA | refine wkP ?_ | refine opB (fun b => ?_) | refine opA (fun a' c' hc1 hc2 => ?_) | (apply GJ.and; exact rfl; intro hg) | (apply GJ.or; exact rfl; intro hg))
    exact Wk.outS Sup.auto (.refl _) (hk ro2 _ hl2 (.inl ⟨h2, rfl⟩))
theorem later_ok {n : RgD} {a : Option Addr} {c : Nat} (hk : ∀ q, K (ptr' q) ro (.blk q 97 [.int .i64 n.kind, wV n.set.a, wV n.set.b, wV n.set.c, wV n.set.d, .slice a n.kids.length c, .int .i64 n.min, .int .i64 n.max, .int .u32 0, .int .i32 0, .int .u32 0, .pointer none, .int .i64 0, .int .i64 0, .int .i32 0] :: own)) :
    CallOk Tryz.prog 21 #[.agg (nodeV n.kind n.set a n.kids.length c n.min n.max).toArray] ro own K := by
  refine CallOk.intro (args := [_]) (rs := [_]) T_ok Tryz.func21 Tryz.call21 rfl rfl (by kernel_rfl) rfl rfl ?_
  repeat (first | exact endA | refine wkP ?_ | refine opB (fun b => ?_) | refine opA (fun a' c' hc1 hc2 => ?_) | (apply GJ.and; exact rfl; intro hg) | (apply GJ.or; exact rfl; intro hg))
  exact Wk.outS Sup.auto (.refl _) (hk _)
theorem iadd64_ok {b o : Nat} {t : TypeId} {cs : List Value} {x : Int} [hb : HasBlk own b t cs g] (hx : cs[o]? = some (.int .i64 x)) (hr : 0 ≤ x ∧ x ≤ 1000000) (hk : K (.int .i64 (x + 1)) ro (g (.blk b t (cs.set o (.int .i64 (x + 1)))))) :
    CallOk Tryz.prog 36 #[.pointer (some ⟨b, o, none⟩), .int .i64 1] ro own K := by
  refine CallOk.intro (args := [_, _]) (rs := [_]) T_ok Tryz.func36 Tryz.call36 rfl rfl (by kernel_rfl) rfl rfl ?_
  repeat (first | exact endA | refine wkP ?_ | refine opB (fun b => ?_) | refine opA (fun a' c' hc1 hc2 => ?_) | (apply GJ.and; exact rfl; intro hg) | (apply GJ.or; exact rfl; intro hg))
  refine CallOk.aaddAt Tryz.func60 (by kernel_rfl) (by kernel_rfl) (by kernel_rfl) .i64 (by kernel_rfl) (s := x + 1) hx (by simp [IntKind.wrap, IntKind.bits, IntKind.signed]; omega) ?_
  repeat (first | exact endA | refine wkP ?_ | refine opB (fun b => ?_) | refine opA (fun a' c' hc1 hc2 => ?_) | (apply GJ.and; exact rfl; intro hg) | (apply GJ.or; exact rfl; intro hg))
  exact Wk.id hk
theorem iadd32_ok {b o : Nat} {t : TypeId} {cs : List Value} {x : Int} [hb : HasBlk own b t cs g] (hx : cs[o]? = some (.int .i32 x)) (hr : 0 ≤ x ∧ x ≤ 1000000) (hk : K (.int .i32 (x + 1)) ro (g (.blk b t (cs.set o (.int .i32 (x + 1)))))) :
    CallOk Tryz.prog 39 #[.pointer (some ⟨b, o, none⟩), .int .i32 1] ro own K := by
  refine CallOk.intro (args := [_, _]) (rs := [_]) T_ok Tryz.func39 Tryz.call39 rfl rfl (by kernel_rfl) rfl rfl ?_
  repeat (first | exact endA | refine wkP ?_ | refine opB (fun b => ?_) | refine opA (fun a' c' hc1 hc2 => ?_) | (apply GJ.and; exact rfl; intro hg) | (apply GJ.or; exact rfl; intro hg))
  refine CallOk.aaddAt Tryz.func63 (by kernel_rfl) (by kernel_rfl) (by kernel_rfl) .i32 (by kernel_rfl) (s := x + 1) hx (by simp [IntKind.wrap, IntKind.bits, IntKind.signed]; omega) ?_
  repeat (first | exact endA | refine wkP ?_ | refine opB (fun b => ?_) | refine opA (fun a' c' hc1 hc2 => ?_) | (apply GJ.and; exact rfl; intro hg) | (apply GJ.or; exact rfl; intro hg))
  exact Wk.id hk
theorem iload32_ok {b o : Nat} {x : Int} (hl : Ld ro own b o (.int .i32 x)) (hk : K (.int .i32 x) ro own) : CallOk Tryz.prog 35 #[.pointer (some ⟨b, o, none⟩)] ro own K := by
  refine CallOk.intro (args := [_]) (rs := [_]) T_ok Tryz.func35 Tryz.call35 rfl rfl (by kernel_rfl) rfl rfl ?_
  repeat (first | exact endA | refine wkP ?_ | refine opB (fun b => ?_) | refine opA (fun a' c' hc1 hc2 => ?_) | (apply GJ.and; exact rfl; intro hg) | (apply GJ.or; exact rfl; intro hg))
  refine CallOk.aload Tryz.func59 (by kernel_rfl) (by kernel_rfl) (by kernel_rfl) .i32 (by kernel_rfl) (x := x) (by simpa using hl) ?_
  repeat (first | exact endA | refine wkP ?_ | refine opB (fun b => ?_) | refine opA (fun a' c' hc1 hc2 => ?_) | (apply GJ.and; exact rfl; intro hg) | (apply GJ.or; exact rfl; intro hg))
  exact Wk.id hk
theorem iload64_ok {b o : Nat} {x : Int} (hl : Ld ro own b o (.int .i64 x)) (hk : K (.int .i64 x) ro own) : CallOk Tryz.prog 34 #[.pointer (some ⟨b, o, none⟩)] ro own K := by
  refine CallOk.intro (args := [_]) (rs := [_]) T_ok Tryz.func34 Tryz.call34 rfl rfl (by kernel_rfl) rfl rfl ?_
  repeat (first | exact endA | refine wkP ?_ | refine opB (fun b => ?_) | refine opA (fun a' c' hc1 hc2 => ?_) | (apply GJ.and; exact rfl; intro hg) | (apply GJ.or; exact rfl; intro hg))
  refine CallOk.aload Tryz.func58 (by kernel_rfl) (by kernel_rfl) (by kernel_rfl) .i64 (by kernel_rfl) (x := x) (by simpa using hl) ?_
  repeat (first | exact endA | refine wkP ?_ | refine opB (fun b => ?_) | refine opA (fun a' c' hc1 hc2 => ?_) | (apply GJ.and; exact rfl; intro hg) | (apply GJ.or; exact rfl; intro hg))
  exact Wk.id hk
theorem counts_ok {q : Nat} {z0 z1 z2 z3 z4 z5 z6 z7 d s sm P : Value} {e x y : Int} (hy : 0 ≤ y ∧ y ≤ 1000000) (hk : K (.tuple #[.int .i64 x, .int .i64 y]) ro (.blk q 97 [z0, z1, z2, z3, z4, z5, z6, z7, d, s, sm, P, .int .i64 e, .int .i64 x, .int .i32 y] :: own)) :
    CallOk Tryz.prog 22 #[ptr' q] ro (.blk q 97 [z0, z1, z2, z3, z4, z5, z6, z7, d, s, sm, P, .int .i64 e, .int .i64 x, .int .i32 y] :: own) K := by
  refine CallOk.intro (args := [_]) (rs := [_, _]) T_ok Tryz.func22 Tryz.call22 rfl rfl (by kernel_rfl) rfl rfl ?_
  repeat (first | exact endA | refine wkP ?_ | refine opB (fun b => ?_) | refine opA (fun a' c' hc1 hc2 => ?_) | (apply GJ.and; exact rfl; intro hg) | (apply GJ.or; exact rfl; intro hg))
  refine iload64_ok (x := x) (by exact Ld.hasBlkAt rfl) ?_
  repeat (first | exact endA | refine wkP ?_ | refine opB (fun b => ?_) | refine opA (fun a' c' hc1 hc2 => ?_) | (apply GJ.and; exact rfl; intro hg) | (apply GJ.or; exact rfl; intro hg))
  refine iload32_ok (x := y) (by exact Ld.hasBlkAt rfl) ?_
  repeat (first | exact endA | refine wkP ?_ | refine opB (fun b => ?_) | refine opA (fun a' c' hc1 hc2 => ?_) | (apply GJ.and; exact rfl; intro hg) | (apply GJ.or; exact rfl; intro hg))
  rw [show IntKind.i64.wrap y = y from wrap_i64 (by omega)]
  exact Wk.outS Sup.auto (.refl _) hk
/-- The closure of Auto: the automaton is made. -/
theorem auto1_ok {n : RgD} {a : Option Addr} {c q pl : Nat} {d s sm : Value} {x : Int} (ht : TabOk ro) (hv : RgOk ro n (nodeV n.kind n.set a n.kids.length c n.min n.max))
    (hk : ∀ ro' P, Le ro ro' → OfP ro' n P → K (.tuple #[]) ro' (.blk q 97 [.int .i64 n.kind, wV n.set.a, wV n.set.b, wV n.set.c, wV n.set.d, .slice a n.kids.length c, .int .i64 n.min, .int .i64 n.max, d, s, sm, P, .int .i64 (lstE n : Int), .int .i64 x, .int .i32 1] :: .blk pl 56 [ptr' q] :: own)) :
    CallOk Tryz.prog 38 #[ptr' pl] ro (.blk q 97 [.int .i64 n.kind, wV n.set.a, wV n.set.b, wV n.set.c, wV n.set.d, .slice a n.kids.length c, .int .i64 n.min, .int .i64 n.max, d, s, sm, .pointer none, .int .i64 0, .int .i64 x, .int .i32 0] :: .blk pl 56 [ptr' q] :: own) K := by
  refine CallOk.intro (args := [_]) (rs := []) T_ok Tryz.func38 Tryz.call38 rfl rfl (by kernel_rfl) rfl rfl ?_
  repeat (first | exact endA | refine wkN ?_ | refine Bs.all ?_ | (show QOk _ _ _ _ _ _ _; refine QOk.build rfl rfl Nf.auto ?_) | refine opB (fun b => ?_) | refine opA (fun a' c' hc1 hc2 => ?_) | (show GJ _ _ _ _ _ _ _; first | refine GJ.t (by decide) ?_ | refine GJ.f (by decide) ?_ | refine GJ.ft (by decide) ?_ | refine GJ.ff (by decide) ?_) | (show Br _ _ _; first | refine Br.t (by decide) ?_ | refine Br.f (by decide) ?_) | (apply GJ.and; exact rfl; intro hg) | (apply GJ.or; exact rfl; intro hg))
  refine CodeOk.drawn [.look 0, .look 1, .look 2, .look 3, .look 4, .keep 5, .keep 6, .look 7, .look 8, .look 9, .look 10, .look 11, .keep 12, .look 13, .look 14, .keep 15] rfl (by kernel_rfl) (by rfl) (by kernel_rfl) ?_
  refine Stop.mk ?_
  refine Bs.mk ⟨[.blk pl 56 [ptr' q]], Sup.auto, ?_⟩
  repeat (first | exact endA | refine wkU ?_ | (show QOk _ _ _ _ _ _ _; refine QOk.build rfl rfl Nf.auto ?_) | (show GJ _ _ _ _ _ _ _; first | with_reducible refine GJ.neF ?_ | with_reducible refine GJ.neT ?_) | (show Br _ _ _; with_reducible refine Br.ne ?_) | refine opB (fun b => ?_) | refine opA (fun a' c' hc1 hc2 => ?_) | (apply GJ.and; exact rfl; intro hg) | (apply GJ.or; exact rfl; intro hg))
  refine dof_ok ht hv (fun ro' P hl hp => ?_)
  repeat (first | exact endA | refine wkU ?_ | (show QOk _ _ _ _ _ _ _; refine QOk.build rfl rfl Nf.auto ?_) | (show GJ _ _ _ _ _ _ _; first | with_reducible refine GJ.neF ?_ | with_reducible refine GJ.neT ?_) | (show Br _ _ _; with_reducible refine Br.ne ?_) | refine opB (fun b => ?_) | refine opA (fun a' c' hc1 hc2 => ?_) | (apply GJ.and; exact rfl; intro hg) | (apply GJ.or; exact rfl; intro hg))
  obtain ⟨o, rfl⟩ : ∃ o, P = .pointer o := by
    rcases hp with ⟨h1, rfl⟩ | ⟨h1, p, rfl, h3⟩ <;> exact ⟨_, rfl⟩
  repeat (first | exact endA | refine wkU ?_ | (show QOk _ _ _ _ _ _ _; refine QOk.build rfl rfl Nf.auto ?_) | (show GJ _ _ _ _ _ _ _; first | with_reducible refine GJ.neF ?_ | with_reducible refine GJ.neT ?_) | (show Br _ _ _; with_reducible refine Br.ne ?_) | refine opB (fun b => ?_) | refine opA (fun a' c' hc1 hc2 => ?_) | (apply GJ.and; exact rfl; intro hg) | (apply GJ.or; exact rfl; intro hg))
  refine iadd32_ok (x := 0) rfl (by omega) ?_
  repeat (first | exact endA | refine wkP ?_ | refine opB (fun b => ?_) | refine opA (fun a' c' hc1 hc2 => ?_) | (apply GJ.and; exact rfl; intro hg) | (apply GJ.or; exact rfl; intro hg))
  exact Wk.outS Sup.auto (.refl _) (hk ro' _ hl hp)
/-- A Lazy's cells: not made yet. -/
def lz0 (n : RgD) (a : Option Addr) (c : Nat) (x : Int) : List Value := [.int .i64 n.kind, wV n.set.a, wV n.set.b, wV n.set.c, wV n.set.d, .slice a n.kids.length c, .int .i64 n.min, .int .i64 n.max, .int .u32 0, .int .i32 0, .int .u32 0, .pointer none, .int .i64 0, .int .i64 x, .int .i32 0]
/-- A Lazy's cells: made. -/
def lz1 (n : RgD) (a : Option Addr) (c : Nat) (x : Int) (P : Value) : List Value := [.int .i64 n.kind, wV n.set.a, wV n.set.b, wV n.set.c, wV n.set.d, .slice a n.kids.length c, .int .i64 n.min, .int .i64 n.max, .int .u32 1, .int .i32 0, .int .u32 0, P, .int .i64 (lstE n : Int), .int .i64 x, .int .i32 1]
theorem lauto0_ok {n : RgD} {a : Option Addr} {c q : Nat} {x : Int} (ht : TabOk ro) (hv : RgOk ro n (nodeV n.kind n.set a n.kids.length c n.min n.max)) (hx : 0 ≤ x ∧ x ≤ 1000000)
    (hk : ∀ ro' P, Le ro ro' → OfP ro' n P → K (.tuple #[P, .int .i64 (lstE n : Int)]) ro' (.blk q 97 (lz1 n a c (x + 1) P) :: own)) :
    CallOk Tryz.prog 23 #[ptr' q] ro (.blk q 97 (lz0 n a c x) :: own) K := by
  dsimp only [lz0, lz1] at hk ⊢
  refine CallOk.intro (args := [_]) (rs := [_, _]) T_ok Tryz.func23 Tryz.call23 rfl rfl (by kernel_rfl) rfl rfl ?_
  repeat (first | exact endA | refine wkP ?_ | refine opB (fun b => ?_) | refine opA (fun a' c' hc1 hc2 => ?_) | (apply GJ.and; exact rfl; intro hg) | (apply GJ.or; exact rfl; intro hg))
  refine iadd64_ok (x := x) rfl hx ?_
  dsimp only [List.set]
  repeat (first | exact endA | refine wkP ?_ | refine opB (fun b => ?_) | refine opA (fun a' c' hc1 hc2 => ?_) | (apply GJ.and; exact rfl; intro hg) | (apply GJ.or; exact rfl; intro hg))
  refine CallOk.perm (.swap _ _ _) ?_
  refine do_first (rest := [.pointer none, .int .i64 0, .int .i64 (x + 1), .int .i32 0]) (Ψ := fun ro' rest' r' => ∃ P, Le ro ro' ∧ OfP ro' n P ∧ rest' = [P, .int .i64 (lstE n : Int), .int .i64 (x + 1), .int .i32 1] ∧ r' = .blk b 56 [ptr' q] :: own) (auto1_ok ht hv (fun ro' P hl hp => ⟨rfl, _, _, rfl, P, hl, hp, rfl, rfl⟩)) ?_
  rintro ro' rest' r' hl ⟨P, hl2, hp, rfl, rfl⟩
  obtain ⟨o, rfl⟩ : ∃ o, P = .pointer o := by
    rcases hp with ⟨h1, rfl⟩ | ⟨h1, p, rfl, h3⟩ <;> exact ⟨_, rfl⟩
  repeat (first | exact endA | refine wkP ?_ | refine opB (fun b => ?_) | refine opA (fun a' c' hc1 hc2 => ?_) | (apply GJ.and; exact rfl; intro hg) | (apply GJ.or; exact rfl; intro hg))
  exact Wk.outS Sup.auto (.refl _) (hk ro' _ hl hp)
end
end Go.Proofs.YtinbmhbfcoiefaaGreatDoor
end
section
/- Contracts of dfa's laws: few, made. -/
namespace Go.Proofs.YtinbmhbfcoiefaaGreatDoor
open Go Go.E
set_option linter.unusedVariables false
set_option linter.unusedSimpArgs false
set_option maxRecDepth 10000
structure Fw8C (n : RgD) : Prop where
  run : ∀ {ro : Ro} {r : Chs} {K : Value → Ro → Chs → Prop} {p : Nat} {v : List Value} {M : Int}, RgOk ro n v → 0 ≤ M → M ≤ 100000 → K (.bool (fewX 4 5 n M).1) ro (.blk p 3 [.int .i64 (fewX 4 5 n M).2] :: r) →
    CallOk Tryz.prog 19 #[.agg v.toArray, ptr' p] ro (.blk p 3 [.int .i64 M] :: r) K
set_option maxHeartbeats 16000000 in
theorem fw8C : ∀ n, Fw8C n := RgD.ind fun k z l x y ih => ⟨fun {ro r K p v M} hv hM hM2 hk => by
  rw [RgOk] at hv
  obtain ⟨ad, cp, cs, rfl, hs, hrs, hks⟩ := hv
  have hle := hrs.le
  have hmx := hrs.max
  unfold maxLen at hmx
  rw [fewX] at hk
  dsimp only at hk
  by_cases h0 : M - 1 < 0
  · rw [if_pos (.inl (.inl h0))] at hk
    refine CallOk.intro (args := [_, _]) (rs := [_]) T_ok Tryz.func19 Tryz.call19 rfl rfl (by kernel_rfl) rfl rfl ?_
    repeat (first | exact endA | refine wkP ?_ | refine opB (fun b => ?_) | refine opA (fun a' c' hc1 hc2 => ?_) | (apply GJ.and; exact rfl; intro hg) | (apply GJ.or; exact rfl; intro hg))
    exact Wk.outS Sup.auto (.refl _) hk
  by_cases h100 : 30 < l.length
  · rw [if_pos (.inl (.inr h100))] at hk
    refine CallOk.intro (args := [_, _]) (rs := [_]) T_ok Tryz.func19 Tryz.call19 rfl rfl (by kernel_rfl) rfl rfl ?_
    repeat (first | exact endA | refine wkP ?_ | refine opB (fun b => ?_) | refine opA (fun a' c' hc1 hc2 => ?_) | (apply GJ.and; exact rfl; intro hg) | (apply GJ.or; exact rfl; intro hg))
    exact Wk.outS Sup.auto (.refl _) hk
  by_cases hk5 : k = 5 ∧ (4 < x ∨ 5 < y)
  · rw [if_pos (.inr hk5)] at hk
    obtain ⟨rfl, hk6⟩ := hk5
    by_cases hx6 : 4 < x
    · refine CallOk.intro (args := [_, _]) (rs := [_]) T_ok Tryz.func19 Tryz.call19 rfl rfl (by kernel_rfl) rfl rfl ?_
      repeat (first | exact endA | refine wkP ?_ | refine opB (fun b => ?_) | refine opA (fun a' c' hc1 hc2 => ?_) | (apply GJ.and; exact rfl; intro hg) | (apply GJ.or; exact rfl; intro hg))
      exact Wk.outS Sup.auto (.refl _) hk
    · have hy8 : 5 < y := hk6.resolve_left hx6
      refine CallOk.intro (args := [_, _]) (rs := [_]) T_ok Tryz.func19 Tryz.call19 rfl rfl (by kernel_rfl) rfl rfl ?_
      repeat (first | exact endA | refine wkP ?_ | refine opB (fun b => ?_) | refine opA (fun a' c' hc1 hc2 => ?_) | (apply GJ.and; exact rfl; intro hg) | (apply GJ.or; exact rfl; intro hg))
      exact Wk.outS Sup.auto (.refl _) hk
  rw [if_neg (fun z => z.elim (fun u => u.elim h0 h100) hk5)] at hk
  refine CallOk.intro (args := [_, _]) (rs := [_]) T_ok Tryz.func19 Tryz.call19 rfl rfl (by kernel_rfl) rfl rfl ?_
  repeat (first | exact endA | refine wkP ?_ | refine opB (fun b => ?_) | refine opA (fun a' c' hc1 hc2 => ?_) | (apply GJ.and; exact rfl; intro hg) | (apply GJ.or; exact rfl; intro hg))
  refine LoopOk.at (ι := Nat × Int) Keep.auto (fun (i, Mi) => [(40, .int .i64 (i : Int))]) (fun (i, Mi) => .blk p 3 [.int .i64 Mi] :: r) (fun (i, Mi) => i ≤ l.length ∧ 0 ≤ Mi ∧ Mi ≤ M - 1 ∧ fewY 4 5 l (M - 1) = fewY 4 5 (l.drop i) Mi) (fun (i, Mi) => l.length - i) (0, M - 1) ?_ Sub.auto Sup.auto ?_
  · exact ⟨Nat.zero_le _, by omega, Int.le_refl _, by simp⟩
  rintro ⟨i, Mi⟩ ⟨i1, i2, i3, i4⟩
  dsimp only [List.cons_append, List.nil_append] at i1 i2 i3 i4 ⊢
  by_cases hi : i < l.length
  · obtain ⟨kd, hkd⟩ : ∃ kd, l[i]? = some kd := ⟨_, List.getElem?_eq_getElem hi⟩
    have hvv := hks.get hkd
    obtain ⟨ak, ck, hvk⟩ := hvv.cells
    rw [hvk] at hvv
    have hdr : l.drop i = kd :: l.drop (i + 1) := by
      rw [List.drop_eq_getElem_cons hi]
      congr 1
      rw [List.getElem?_eq_getElem hi] at hkd
      exact Option.some.inj hkd
    rw [hdr, fewY] at i4
    dsimp only at i4
    have hleft := fewX_left (mn := 4) (mx := 5) kd Mi
    repeat (first | exact endA | refine wkP ?_ | refine opB (fun b => ?_) | refine opA (fun a' c' hc1 hc2 => ?_) | (apply GJ.and; exact rfl; intro hg) | (apply GJ.or; exact rfl; intro hg))
    rw [Int.toNat_natCast]
    refine OpOk.loadRow rfl rfl (LdN.at hrs hvk) rfl ?_
    repeat (first | exact endA | refine wkP ?_ | refine opB (fun b => ?_) | refine opA (fun a' c' hc1 hc2 => ?_) | (apply GJ.and; exact rfl; intro hg) | (apply GJ.or; exact rfl; intro hg))
    refine CallOk.sup (own0 := .blk p 3 [.int .i64 Mi] :: r) Sup.auto ?_
    refine (ih kd (List.mem_of_getElem? hkd)).run hvv i2 (by omega) ?_
    generalize fewX 4 5 kd Mi = R at i4 hleft ⊢
    obtain ⟨R1, R2⟩ := R
    dsimp only at i4 hleft ⊢
    cases R1 with
    | true =>
      rw [if_pos rfl] at i4
      obtain ⟨h5, h6⟩ := hleft rfl
      repeat (first | exact endA | refine wkP ?_ | refine opB (fun b => ?_) | refine opA (fun a' c' hc1 hc2 => ?_) | (apply GJ.and; exact rfl; intro hg) | (apply GJ.or; exact rfl; intro hg))
      refine Wk.id ⟨(i + 1, R2), ⟨rfl, ?_⟩, ?_, Sub.auto, Sup.auto⟩
      all_goals try dsimp only
      · exact ⟨by omega, h5, by omega, i4⟩
      · omega
    | false =>
      rw [if_neg (by decide)] at i4
      rw [i4] at hk
      repeat (first | exact endA | refine wkP ?_ | refine opB (fun b => ?_) | refine opA (fun a' c' hc1 hc2 => ?_) | (apply GJ.and; exact rfl; intro hg) | (apply GJ.or; exact rfl; intro hg))
      exact Wk.outS Sup.auto (.refl _) hk
  · obtain rfl : i = l.length := by omega
    rw [List.drop_length, fewY] at i4
    dsimp only at i4
    rw [i4] at hk
    repeat (first | exact endA | refine wkP ?_ | refine opB (fun b => ?_) | refine opA (fun a' c' hc1 hc2 => ?_) | (apply GJ.and; exact rfl; intro hg) | (apply GJ.or; exact rfl; intro hg))
    exact Wk.outS Sup.auto (.refl _) hk⟩
/-- Is there an automaton (made)? -/
def mdB (n : RgD) : Prop := (fewX 4 5 n 16).1 = true ∧ (makeN n).1 = 0 ∧ (makeA (makeN n).2).1 = 0
section
variable {ro : Ro} {own r : Chs} {K : Value → Ro → Chs → Prop} {g : Chunk → Chs}
theorem dmade_ok {n : RgD} {v : List Value} (ht : TabOk ro) (hv : RgOk ro n v)
    (hk0 : ∀ ro', Le ro ro' → ¬ mdB n → K (.tuple #[.pointer none, .pointer none, .bool false]) ro' own)
    (hk1 : ∀ ro' p q, Le ro ro' → mdB n → DAt ro' p (makeA (makeN n).2).2 → DAt ro' q (lstD n) → K (.tuple #[ptr' p, ptr' q, .bool true]) ro' own) :
    CallOk Tryz.prog 9 #[.agg v.toArray] ro own K := by
  have hin := rg_ins hv
  obtain ⟨a1, c1, hvc⟩ := hv.cells
  have hv0 := hv
  subst hvc
  have hK := make_k hin
  refine CallOk.intro (args := [_]) (rs := [_, _, _]) T_ok Tryz.func9 Tryz.call9 rfl rfl (by kernel_rfl) rfl rfl ?_
  repeat (first | exact endA | refine wkP ?_ | refine opB (fun b => ?_) | refine opA (fun a' c' hc1 hc2 => ?_) | (apply GJ.and; exact rfl; intro hg) | (apply GJ.or; exact rfl; intro hg))
  refine (fw8C n).run hv0 (by decide) (by decide) ?_
  by_cases hf : (fewX 4 5 n 16).1 = true
  · rw [hf]
    repeat (first | exact endA | refine wkP ?_ | refine opB (fun b => ?_) | refine opA (fun a' c' hc1 hc2 => ?_) | (apply GJ.and; exact rfl; intro hg) | (apply GJ.or; exact rfl; intro hg))
    refine nmake_ok hv0 (fun ro2 v2 hl2 hA => ?_)
    have hA0 := hA
    by_cases h1 : (makeN n).1 = 0
    · obtain ⟨hw, hsl⟩ := make_size h1
      rw [h1]
      obtain ⟨ad, cp, hs, rfl, hrs, hrw⟩ := hA
      repeat (first | exact endA | refine wkP ?_ | refine opB (fun b => ?_) | refine opA (fun a' c' hc1 hc2 => ?_) | (apply GJ.and; exact rfl; intro hg) | (apply GJ.or; exact rfl; intro hg))
      refine dmake_ok hA0 hK (ht.le hl2) hsl (fun h2 ro3 hl3 => ?_) (fun h2 ro3 p hl3 hp => ?_)
      · repeat (first | exact endA | refine wkP ?_ | refine opB (fun b => ?_) | refine opA (fun a' c' hc1 hc2 => ?_) | (apply GJ.and; exact rfl; intro hg) | (apply GJ.or; exact rfl; intro hg))
        exact Wk.outS Sup.auto (.refl _) (hk0 ro3 (hl2.trans hl3) (fun h => h2 h.2.2))
      · have hm := (made_a2 hK.ok.to hK.sets h2).1
        obtain ⟨w, hw6, ho, hs⟩ := hm.ok
        repeat (first | exact endA | refine wkP ?_ | refine opB (fun b => ?_) | refine opA (fun a' c' hc1 hc2 => ?_) | (apply GJ.and; exact rfl; intro hg) | (apply GJ.or; exact rfl; intro hg))
        refine dleast_ok hp ho hs hw6 hm.pos hm.le (fun ro4 p4 hl4 hp4 => ?_)
        repeat (first | exact endA | refine wkP ?_ | refine opB (fun b => ?_) | refine opA (fun a' c' hc1 hc2 => ?_) | (apply GJ.and; exact rfl; intro hg) | (apply GJ.or; exact rfl; intro hg))
        exact Wk.outS Sup.auto (.refl _) (hk1 ro4 p p4 ((hl2.trans hl3).trans hl4) ⟨hf, h1, h2⟩ (hp.le hl4) hp4)
    · have hz : (makeN n).1 ≠ 0 := h1
      obtain ⟨ad, cp, hs, rfl, hrs, hrw⟩ := hA
      repeat (first | exact endA | refine wkP ?_ | refine opB (fun b => ?_) | refine opA (fun a' c' hc1 hc2 => ?_) | (apply GJ.and; exact rfl; intro hg) | (apply GJ.or; exact rfl; intro hg))
      exact Wk.outS Sup.auto (.refl _) (hk0 ro2 hl2 (fun h => h1 h.2.1))
  · rw [Bool.not_eq_true] at hf
    rw [hf]
    repeat (first | exact endA | refine wkP ?_ | refine opB (fun b => ?_) | refine opA (fun a' c' hc1 hc2 => ?_) | (apply GJ.and; exact rfl; intro hg) | (apply GJ.or; exact rfl; intro hg))
    exact Wk.outS Sup.auto (.refl _) (hk0 ro (Le.refl _) (fun h => Bool.noConfusion (hf.symm.trans h.1)))
end
end Go.Proofs.YtinbmhbfcoiefaaGreatDoor
end
section
/- Contracts of dfa's laws: makes (the automaton of some as and a b). -/
namespace Go.Proofs.YtinbmhbfcoiefaaGreatDoor
open Go Go.E
set_option linter.unusedVariables false
set_option linter.unusedSimpArgs false
set_option maxRecDepth 10000
def abT : List UInt8 := [97, 43, 98]
def abD : RgD := (parseD abT).1
theorem ab_ok : (parseD abT).2 = (0, 0) := by kernel_rfl
theorem ab_make : (makeN abD).1 = 0 := by kernel_rfl
theorem ab_makeA : (makeA (makeN abD).2).1 = 0 := by kernel_rfl
theorem ab_e : lstE abD = 0 := by
  unfold lstE
  rw [ab_make, if_neg (by decide)]
  exact ab_makeA
theorem ab_len : (lstD abD).next.length = 3 := by kernel_rfl
theorem ab_width : widthA (lstD abD) = 3 := by kernel_rfl
theorem ab_m1 : matchA (lstD abD) [97, 97, 98] = true := by kernel_rfl
theorem ab_m2 : matchA (lstD abD) [97, 97, 98, 98] = false := by kernel_rfl
theorem ab_s1 : stepA (lstD abD) 0 98 = -1 := by kernel_rfl
theorem ab_s2 : stepA (lstD abD) 0 97 = 1 := by kernel_rfl
theorem ab_e1 : endsA (lstD abD) 2 = true := by kernel_rfl
theorem ab_e2 : endsA (lstD abD) (-1) = false := by kernel_rfl
/-- What is known of an expression's least automaton. -/
theorem lst_least {n : RgD} {v : List Value} {ro : Ro} (hv : RgOk ro n v) (h : lstE n = 0) : LeastA (lstD n) ∧ MadeA (makeA (makeN n).2).2 := by
  have hK := make_k (rg_ins hv)
  unfold lstE at h
  have h1 : (makeN n).1 = 0 := by
    refine Decidable.byContradiction fun hn => ?_
    rw [if_pos hn] at h
    exact hn h
  rw [h1, if_neg (by decide)] at h
  have hm := (made_a2 hK.ok.to hK.sets h).1
  exact ⟨hm.least.1, hm⟩
section
variable {ro : Ro} {own r : Chs} {K : Value → Ro → Chs → Prop} {g : Chunk → Chs}
theorem makes08_ok (ht : TabOk ro) (hk : ∀ ro', Le ro ro' → K (.bool true) ro' own) : CallOk Tryz.prog 8 #[] ro own K := by
  refine CallOk.intro (args := []) (rs := [_]) T_ok Tryz.func8 Tryz.call8 rfl rfl (by kernel_rfl) rfl rfl ?_
  repeat (first | exact endA | refine wkP ?_ | refine opB (fun b => ?_) | refine opA (fun a' c' hc1 hc2 => ?_) | (apply GJ.and; exact rfl; intro hg) | (apply GJ.or; exact rfl; intro hg))
  refine rparse_ok (t := abT) (by decide) (fun ro2 v hl2 hv => ?_)
  rw [ab_ok]
  have hab : (parseD abT).1 = abD := rfl
  rw [hab] at hv
  have hv0 := hv
  obtain ⟨a1, c1, hvc⟩ := hv.cells
  subst hvc
  obtain ⟨hlst, hmd⟩ := lst_least hv0 ab_e
  have he := ab_e
  have f1 := ab_len
  have f2 := ab_width
  have f3 := ab_m1
  have f4 := ab_m2
  have f5 := ab_s1
  have f6 := ab_s2
  have f7 := ab_e1
  have f8 := ab_e2
  clear hab hv
  generalize abD = n at *
  obtain ⟨w, hw6, ho, hsu, hsx⟩ := hlst.ok
  clear hlst hsu hw6 hsx hmd
  repeat (first | exact endA | refine wkP ?_ | refine opB (fun b => ?_) | refine opA (fun a' c' hc1 hc2 => ?_) | (apply GJ.and; exact rfl; intro hg) | (apply GJ.or; exact rfl; intro hg))
  refine dof_ok (ht.le hl2) hv0 (fun ro3 P hl3 hP => ?_)
  rw [he]
  obtain ⟨_, p, rfl, hp⟩ := hP.resolve_left (fun h => h.1 he)
  repeat (first | exact endA | refine wkP ?_ | refine opB (fun b => ?_) | refine opA (fun a' c' hc1 hc2 => ?_) | (apply GJ.and; exact rfl; intro hg) | (apply GJ.or; exact rfl; intro hg))
  refine later_ok (fun q => ?_)
  repeat (first | exact endA | refine wkP ?_ | refine opB (fun b => ?_) | refine opA (fun a' c' hc1 hc2 => ?_) | (apply GJ.and; exact rfl; intro hg) | (apply GJ.or; exact rfl; intro hg))
  refine lauto0_ok (n := n) (a := a1) (c := c1) (x := 0) ((ht.le hl2).le hl3) (hv0.le hl3) (by decide) (fun ro4 P2 hl4 hP2 => ?_)
  rw [he]
  obtain ⟨_, p2, rfl, hp2⟩ := hP2.resolve_left (fun h => h.1 he)
  dsimp only [lz1]
  rw [he]
  repeat (first | exact endA | refine wkP ?_ | refine opB (fun b => ?_) | refine opA (fun a' c' hc1 hc2 => ?_) | (apply GJ.and; exact rfl; intro hg) | (apply GJ.or; exact rfl; intro hg))
  refine counts_ok (by decide) ?_
  repeat (first | exact endA | refine wkP ?_ | refine opB (fun b => ?_) | refine opA (fun a' c' hc1 hc2 => ?_) | (apply GJ.and; exact rfl; intro hg) | (apply GJ.or; exact rfl; intro hg))
  have hq := hp.le hl4
  refine dsame_ok hq hp2 ?_
  repeat (first | exact endA | refine wkP ?_ | refine opB (fun b => ?_) | refine opA (fun a' c' hc1 hc2 => ?_) | (apply GJ.and; exact rfl; intro hg) | (apply GJ.or; exact rfl; intro hg))
  refine dlen_ok hq ?_
  rw [f1]
  repeat (first | exact endA | refine wkP ?_ | refine opB (fun b => ?_) | refine opA (fun a' c' hc1 hc2 => ?_) | (apply GJ.and; exact rfl; intro hg) | (apply GJ.or; exact rfl; intro hg))
  refine dwidth_ok hq ?_
  rw [f2]
  repeat (first | exact endA | refine wkP ?_ | refine opB (fun b => ?_) | refine opA (fun a' c' hc1 hc2 => ?_) | (apply GJ.and; exact rfl; intro hg) | (apply GJ.or; exact rfl; intro hg))
  refine OpOk.bytesConst rfl rfl rfl rfl (fun ro5 hl5 hr5 => ?_)
  have hq := hq.le hl5
  repeat (first | exact endA | refine wkP ?_ | refine opB (fun b => ?_) | refine opA (fun a' c' hc1 hc2 => ?_) | (apply GJ.and; exact rfl; intro hg) | (apply GJ.or; exact rfl; intro hg))
  refine dmatch_ok (tx := [97, 97, 98]) hq ho hr5.rds rfl ?_
  rw [f3]
  repeat (first | exact endA | refine wkP ?_ | refine opB (fun b => ?_) | refine opA (fun a' c' hc1 hc2 => ?_) | (apply GJ.and; exact rfl; intro hg) | (apply GJ.or; exact rfl; intro hg))
  refine OpOk.bytesConst rfl rfl rfl rfl (fun ro6 hl6 hr6 => ?_)
  have hq := hq.le hl6
  repeat (first | exact endA | refine wkP ?_ | refine opB (fun b => ?_) | refine opA (fun a' c' hc1 hc2 => ?_) | (apply GJ.and; exact rfl; intro hg) | (apply GJ.or; exact rfl; intro hg))
  refine dmatch_ok (tx := [97, 97, 98, 98]) hq ho hr6.rds rfl ?_
  rw [f4]
  repeat (first | exact endA | refine wkP ?_ | refine opB (fun b => ?_) | refine opA (fun a' c' hc1 hc2 => ?_) | (apply GJ.and; exact rfl; intro hg) | (apply GJ.or; exact rfl; intro hg))
  refine dstep_ok (c := 98) hq ho (by decide) ?_
  rw [f5]
  repeat (first | exact endA | refine wkP ?_ | refine opB (fun b => ?_) | refine opA (fun a' c' hc1 hc2 => ?_) | (apply GJ.and; exact rfl; intro hg) | (apply GJ.or; exact rfl; intro hg))
  refine dstep_ok (c := 97) hq ho (by decide) ?_
  rw [f6]
  repeat (first | exact endA | refine wkP ?_ | refine opB (fun b => ?_) | refine opA (fun a' c' hc1 hc2 => ?_) | (apply GJ.and; exact rfl; intro hg) | (apply GJ.or; exact rfl; intro hg))
  refine dends_ok hq ?_
  rw [f7]
  repeat (first | exact endA | refine wkP ?_ | refine opB (fun b => ?_) | refine opA (fun a' c' hc1 hc2 => ?_) | (apply GJ.and; exact rfl; intro hg) | (apply GJ.or; exact rfl; intro hg))
  refine dends_ok hq ?_
  rw [f8]
  repeat (first | exact endA | refine wkP ?_ | refine opB (fun b => ?_) | refine opA (fun a' c' hc1 hc2 => ?_) | (apply GJ.and; exact rfl; intro hg) | (apply GJ.or; exact rfl; intro hg))
  exact Wk.outS Sup.auto (.refl _) (hk ro6 ((((hl2.trans hl3).trans hl4).trans hl5).trans hl6))
end
end Go.Proofs.YtinbmhbfcoiefaaGreatDoor
end
section
/- The law DfaClasses, walked. -/
namespace Go.Proofs.YtinbmhbfcoiefaaGreatDoor
open Go Go.E
set_option linter.unusedVariables false
set_option linter.unusedSimpArgs false
set_option maxRecDepth 10000
section
variable {ro : Ro} {own r : Chs} {K : Value → Ro → Chs → Prop} {g : Chunk → Chs}
theorem dstepX_ok {q : Nat} {d : DfaA} {w : Nat} {s x : Int} {c : Nat} (hx : x = (c : Int)) (hD : DAt ro q d) (ho : DfaOk w d) (hc : c < 256) (hk : K (.int .i64 (stepA d s c)) ro own) : CallOk Tryz.prog 16 #[ptr' q, .int .i64 s, .int .u8 x] ro own K := by
  subst hx
  exact dstep_ok hD ho hc hk
theorem dclasses_law {n : RgD} {v : List Value} (ht : TabOk ro) (hv : RgOk ro n v) (hk : K (.bool true) ro own) : CallOk Tryz.prog 6 #[.agg v.toArray] ro own K := by
  refine CallOk.back ?_
  have hin := rg_ins hv
  obtain ⟨a1, c1, hvc⟩ := hv.cells
  have hv0 := hv
  subst hvc
  refine CallOk.intro (args := [_]) (rs := [_]) T_ok Tryz.func6 Tryz.call6 rfl rfl (by kernel_rfl) rfl rfl ?_
  repeat (first | exact endA | refine wkP ?_ | refine opB (fun b => ?_) | refine opA (fun a' c' hc1 hc2 => ?_) | (apply GJ.and; exact rfl; intro hg) | (apply GJ.or; exact rfl; intro hg))
  refine makes08_ok ht (fun ro1 hl1 => ?_)
  repeat (first | exact endA | refine wkP ?_ | refine opB (fun b => ?_) | refine opA (fun a' c' hc1 hc2 => ?_) | (apply GJ.and; exact rfl; intro hg) | (apply GJ.or; exact rfl; intro hg))
  refine dmade_ok (ht.le hl1) (hv0.le hl1) (fun ro2 hl2 hn => ?_) (fun ro2 p q hl2 hm hp hq => ?_)
  · repeat (first | exact endA | refine wkP ?_ | refine opB (fun b => ?_) | refine opA (fun a' c' hc1 hc2 => ?_) | (apply GJ.and; exact rfl; intro hg) | (apply GJ.or; exact rfl; intro hg))
    exact Wk.back1 Sup.auto (.refl _) hk
  obtain ⟨h1, h2, h3⟩ := hm
  have hK := make_k hin
  have hm := (made_a2 hK.ok.to hK.sets h3).1
  obtain ⟨⟨w, hw, ho, hs, hlike, hfirst⟩, hpos, hle, _, _, _⟩ := hm.least.1
  have hq2 : DAt ro2 q (leastA (makeA (makeN n).2).2) := hq
  clear hq hm hp h1 h2 h3
  generalize leastA (makeA (makeN n).2).2 = D at *
  clear hK hin
  obtain ⟨an, cn, aa, ca, hsv, hd⟩ := hq2.rd
  have hN := hd.ldN
  have hC := hd.ldC
  have hrs := hd.rs
  have hrw := hd.rows
  have hmx := hrs.max
  have hncl := hrs.le
  unfold maxLen at hmx
  repeat (first | exact endA | refine wkP ?_ | refine opB (fun b => ?_) | refine opA (fun a' c' hc1 hc2 => ?_) | (apply GJ.and; exact rfl; intro hg) | (apply GJ.or; exact rfl; intro hg))
  refine LoopOk.at (ι := Nat × Nat) Keep.auto (fun (c, nx) => [(24, .int .i64 (c : Int)), (6, .int .i64 (nx : Int))]) (fun (c, nx) => own) (fun (c, nx) => c ≤ 256 ∧ ClsI D c nx) (fun (c, nx) => 256 - c) (0, 0) ?_ Sub.auto Sup.auto ?_
  · exact ⟨Nat.zero_le _, ⟨fun d k h => absurd h (Nat.not_lt_zero _), fun k h => absurd h (Nat.not_lt_zero _)⟩⟩
  rintro ⟨c, nx⟩ ⟨i1, i2⟩
  dsimp only [List.cons_append, List.nil_append] at i1 i2 ⊢
  by_cases hc : c < 256
  · obtain ⟨k, hkc⟩ : ∃ k, D.cls[c]? = some k := ⟨_, List.getElem?_eq_getElem (by rw [ho.cls]; exact hc)⟩
    have hcell := hC c k hkc
    have hkw := ho.low k (List.mem_of_getElem? hkc)
    obtain ⟨hkn, hstep⟩ := i2.step hfirst hc hkc
    repeat (first | exact endA | refine wkP ?_ | refine opB (fun b => ?_) | refine opA (fun a' c' hc1 hc2 => ?_) | (apply GJ.and; exact rfl; intro hg) | (apply GJ.or; exact rfl; intro hg))
    refine OpOk.load rfl rfl (hcell.ldE (by simp)) ?_
    repeat (first | exact endA | refine wkP ?_ | refine opB (fun b => ?_) | refine opA (fun a' c' hc1 hc2 => ?_) | (apply GJ.and; exact rfl; intro hg) | (apply GJ.or; exact rfl; intro hg))
    by_cases hke : k = nx
    · repeat (first | exact endA | refine wkP ?_ | refine opB (fun b => ?_) | refine opA (fun a' c' hc1 hc2 => ?_) | (apply GJ.and; exact rfl; intro hg) | (apply GJ.or; exact rfl; intro hg))
      refine dlen_ok hq2 ?_
      repeat (first | exact endA | refine wkP ?_ | refine opB (fun b => ?_) | refine opA (fun a' c' hc1 hc2 => ?_) | (apply GJ.and; exact rfl; intro hg) | (apply GJ.or; exact rfl; intro hg))
      refine LoopOk.at (ι := Nat) Keep.auto (fun s => [(44, .int .i64 (s : Int))]) (fun s => own) (fun s => s ≤ D.next.length) (fun s => D.next.length - s) 0 ?_ Sub.auto Sup.auto ?_
      · exact Nat.zero_le _
      intro s i3
      dsimp only [List.cons_append, List.nil_append] at i3 ⊢
      by_cases hsl : s < D.next.length
      · obtain ⟨k2, row, p1, p2, p3, p4⟩ := step_at ho hsl hc
        rw [hkc] at p1
        cases p1
        obtain ⟨ar, cr, q1, q2⟩ := hrw s row p3
        have hrl := ho.row row (List.mem_of_getElem? p3)
        have hgr : (row.map (Value.int .i64))[k]? = some (.int .i64 (stepA D (s : Int) c)) := by rw [List.getElem?_map, p4]; rfl
        repeat (first | exact endA | refine wkP ?_ | refine opB (fun b => ?_) | refine opA (fun a' c' hc1 hc2 => ?_) | (apply GJ.and; exact rfl; intro hg) | (apply GJ.or; exact rfl; intro hg))
        repeat (first | exact endA | refine wkU ?_ | (show QOk _ _ _ _ _ _ _; refine QOk.build rfl rfl Nf.auto ?_) | (show GJ _ _ _ _ _ _ _; first | with_reducible refine GJ.neF ?_ | with_reducible refine GJ.neT ?_) | (show Br _ _ _; with_reducible refine Br.ne ?_) | refine opB (fun b => ?_) | refine opA (fun a' c' hc1 hc2 => ?_) | (apply GJ.and; exact rfl; intro hg) | (apply GJ.or; exact rfl; intro hg))
        refine QOk.load rfl rfl (Go.E.Ld.rs hrs (by rw [Int.toNat_natCast]; exact q1)) ?_
        repeat (first | exact endA | refine wkU ?_ | (show QOk _ _ _ _ _ _ _; refine QOk.build rfl rfl Nf.auto ?_) | (show GJ _ _ _ _ _ _ _; first | with_reducible refine GJ.neF ?_ | with_reducible refine GJ.neT ?_) | (show Br _ _ _; with_reducible refine Br.ne ?_) | refine opB (fun b => ?_) | refine opA (fun a' c' hc1 hc2 => ?_) | (apply GJ.and; exact rfl; intro hg) | (apply GJ.or; exact rfl; intro hg))
        have hy : row[((k : Nat) : Int).toNat]! = stepA D (s : Int) c := by rw [Int.toNat_natCast, List.getElem!_eq_getElem?_getD, p4]; rfl
        refine dstepX_ok (w := w) (c := c) (by omega) hq2 ho hc ?_
        repeat (first | exact endA | refine wkU ?_ | (show QOk _ _ _ _ _ _ _; refine QOk.build rfl rfl Nf.auto ?_) | (show GJ _ _ _ _ _ _ _; first | with_reducible refine GJ.neF ?_ | with_reducible refine GJ.neT ?_) | (show Br _ _ _; with_reducible refine Br.ne ?_) | refine opB (fun b => ?_) | refine opA (fun a' c' hc1 hc2 => ?_) | (apply GJ.and; exact rfl; intro hg) | (apply GJ.or; exact rfl; intro hg))
        repeat (first | exact endA | refine wkP ?_ | refine opB (fun b => ?_) | refine opA (fun a' c' hc1 hc2 => ?_) | (apply GJ.and; exact rfl; intro hg) | (apply GJ.or; exact rfl; intro hg))
        repeat (first | exact endA | refine wkP ?_ | refine opB (fun b => ?_) | refine opA (fun a' c' hc1 hc2 => ?_) | (apply GJ.and; exact rfl; intro hg) | (apply GJ.or; exact rfl; intro hg))
        refine Wk.id ⟨s + 1, ⟨rfl, ?_⟩, ?_, Sub.auto, Sup.auto⟩
        all_goals try dsimp only
        · omega
        · omega
      · obtain rfl : s = D.next.length := by omega
        repeat (first | exact endA | refine wkP ?_ | refine opB (fun b => ?_) | refine opA (fun a' c' hc1 hc2 => ?_) | (apply GJ.and; exact rfl; intro hg) | (apply GJ.or; exact rfl; intro hg))
        refine Wk.id ⟨(c + 1, nx + 1), ⟨rfl, ?_⟩, ?_, Sub.auto, Sup.auto⟩
        all_goals try dsimp only
        · exact ⟨by omega, by rw [if_pos hke] at hstep; exact hstep⟩
        · omega
    · repeat (first | exact endA | refine wkP ?_ | refine opB (fun b => ?_) | refine opA (fun a' c' hc1 hc2 => ?_) | (apply GJ.and; exact rfl; intro hg) | (apply GJ.or; exact rfl; intro hg))
      refine dlen_ok hq2 ?_
      repeat (first | exact endA | refine wkP ?_ | refine opB (fun b => ?_) | refine opA (fun a' c' hc1 hc2 => ?_) | (apply GJ.and; exact rfl; intro hg) | (apply GJ.or; exact rfl; intro hg))
      refine LoopOk.at (ι := Nat) Keep.auto (fun s => [(44, .int .i64 (s : Int))]) (fun s => own) (fun s => s ≤ D.next.length) (fun s => D.next.length - s) 0 ?_ Sub.auto Sup.auto ?_
      · exact Nat.zero_le _
      intro s i3
      dsimp only [List.cons_append, List.nil_append] at i3 ⊢
      by_cases hsl : s < D.next.length
      · obtain ⟨k2, row, p1, p2, p3, p4⟩ := step_at ho hsl hc
        rw [hkc] at p1
        cases p1
        obtain ⟨ar, cr, q1, q2⟩ := hrw s row p3
        have hrl := ho.row row (List.mem_of_getElem? p3)
        have hgr : (row.map (Value.int .i64))[k]? = some (.int .i64 (stepA D (s : Int) c)) := by rw [List.getElem?_map, p4]; rfl
        repeat (first | exact endA | refine wkP ?_ | refine opB (fun b => ?_) | refine opA (fun a' c' hc1 hc2 => ?_) | (apply GJ.and; exact rfl; intro hg) | (apply GJ.or; exact rfl; intro hg))
        repeat (first | exact endA | refine wkU ?_ | (show QOk _ _ _ _ _ _ _; refine QOk.build rfl rfl Nf.auto ?_) | (show GJ _ _ _ _ _ _ _; first | with_reducible refine GJ.neF ?_ | with_reducible refine GJ.neT ?_) | (show Br _ _ _; with_reducible refine Br.ne ?_) | refine opB (fun b => ?_) | refine opA (fun a' c' hc1 hc2 => ?_) | (apply GJ.and; exact rfl; intro hg) | (apply GJ.or; exact rfl; intro hg))
        refine QOk.load rfl rfl (Go.E.Ld.rs hrs (by rw [Int.toNat_natCast]; exact q1)) ?_
        repeat (first | exact endA | refine wkU ?_ | (show QOk _ _ _ _ _ _ _; refine QOk.build rfl rfl Nf.auto ?_) | (show GJ _ _ _ _ _ _ _; first | with_reducible refine GJ.neF ?_ | with_reducible refine GJ.neT ?_) | (show Br _ _ _; with_reducible refine Br.ne ?_) | refine opB (fun b => ?_) | refine opA (fun a' c' hc1 hc2 => ?_) | (apply GJ.and; exact rfl; intro hg) | (apply GJ.or; exact rfl; intro hg))
        have hy : row[((k : Nat) : Int).toNat]! = stepA D (s : Int) c := by rw [Int.toNat_natCast, List.getElem!_eq_getElem?_getD, p4]; rfl
        refine dstepX_ok (w := w) (c := c) (by omega) hq2 ho hc ?_
        repeat (first | exact endA | refine wkU ?_ | (show QOk _ _ _ _ _ _ _; refine QOk.build rfl rfl Nf.auto ?_) | (show GJ _ _ _ _ _ _ _; first | with_reducible refine GJ.neF ?_ | with_reducible refine GJ.neT ?_) | (show Br _ _ _; with_reducible refine Br.ne ?_) | refine opB (fun b => ?_) | refine opA (fun a' c' hc1 hc2 => ?_) | (apply GJ.and; exact rfl; intro hg) | (apply GJ.or; exact rfl; intro hg))
        repeat (first | exact endA | refine wkP ?_ | refine opB (fun b => ?_) | refine opA (fun a' c' hc1 hc2 => ?_) | (apply GJ.and; exact rfl; intro hg) | (apply GJ.or; exact rfl; intro hg))
        repeat (first | exact endA | refine wkP ?_ | refine opB (fun b => ?_) | refine opA (fun a' c' hc1 hc2 => ?_) | (apply GJ.and; exact rfl; intro hg) | (apply GJ.or; exact rfl; intro hg))
        refine Wk.id ⟨s + 1, ⟨rfl, ?_⟩, ?_, Sub.auto, Sup.auto⟩
        all_goals try dsimp only
        · omega
        · omega
      · obtain rfl : s = D.next.length := by omega
        repeat (first | exact endA | refine wkP ?_ | refine opB (fun b => ?_) | refine opA (fun a' c' hc1 hc2 => ?_) | (apply GJ.and; exact rfl; intro hg) | (apply GJ.or; exact rfl; intro hg))
        refine Wk.id ⟨(c + 1, nx), ⟨rfl, ?_⟩, ?_, Sub.auto, Sup.auto⟩
        all_goals try dsimp only
        · exact ⟨by omega, by rw [if_neg hke] at hstep; exact hstep⟩
        · omega
  · obtain rfl : c = 256 := by omega
    have hnx := i2.fin ho hs
    subst hnx
    have hwd : widthA D = nx := by
      obtain ⟨r, hr⟩ : ∃ r, D.next[0]? = some r := ⟨_, List.getElem?_eq_getElem hpos⟩
      unfold widthA; rw [hr]; exact ho.row r (List.mem_of_getElem? hr)
    repeat (first | exact endA | refine wkP ?_ | refine opB (fun b => ?_) | refine opA (fun a' c' hc1 hc2 => ?_) | (apply GJ.and; exact rfl; intro hg) | (apply GJ.or; exact rfl; intro hg))
    refine dwidth_ok hq2 ?_
    rw [hwd]
    repeat (first | exact endA | refine wkP ?_ | refine opB (fun b => ?_) | refine opA (fun a' c' hc1 hc2 => ?_) | (apply GJ.and; exact rfl; intro hg) | (apply GJ.or; exact rfl; intro hg))
    refine LoopOk.at (ι := Nat) Keep.auto (fun i => [(67, .int .i64 (i : Int))]) (fun i => own) (fun i => i ≤ nx) (fun i => nx - i) 0 ?_ Sub.auto Sup.auto ?_
    · exact Nat.zero_le _
    intro i i3
    dsimp only [List.cons_append, List.nil_append] at i3 ⊢
    by_cases hi : i < nx
    · repeat (first | exact endA | refine wkP ?_ | refine opB (fun b => ?_) | refine opA (fun a' c' hc1 hc2 => ?_) | (apply GJ.and; exact rfl; intro hg) | (apply GJ.or; exact rfl; intro hg))
      refine LoopOk.at (ι := Nat) Keep.auto (fun k => [(71, .int .i64 (k : Int))]) (fun k => own) (fun k => k ≤ i) (fun k => i - k) 0 ?_ Sub.auto Sup.auto ?_
      · exact Nat.zero_le _
      intro k k3
      dsimp only [List.cons_append, List.nil_append] at k3 ⊢
      by_cases hki : k < i
      · repeat (first | exact endA | refine wkP ?_ | refine opB (fun b => ?_) | refine opA (fun a' c' hc1 hc2 => ?_) | (apply GJ.and; exact rfl; intro hg) | (apply GJ.or; exact rfl; intro hg))
        refine dlen_ok hq2 ?_
        repeat (first | exact endA | refine wkP ?_ | refine opB (fun b => ?_) | refine opA (fun a' c' hc1 hc2 => ?_) | (apply GJ.and; exact rfl; intro hg) | (apply GJ.or; exact rfl; intro hg))
        refine LoopOk.at (ι := Nat × Bool) Keep.auto (fun (s, like) => [(76, .int .i64 (s : Int)), (12, .bool like)]) (fun (s, like) => own) (fun (s, like) => s ≤ D.next.length ∧ (like = true → ∀ (t : Nat) (r : List Int), t < s → D.next[t]? = some r → r[i]? = r[k]?)) (fun (s, like) => D.next.length - s) (0, true) ?_ Sub.auto Sup.auto ?_
        · exact ⟨Nat.zero_le _, fun _ t r h => absurd h (Nat.not_lt_zero _)⟩
        rintro ⟨s, like⟩ ⟨s1, s2⟩
        dsimp only [List.cons_append, List.nil_append] at s1 s2 ⊢
        by_cases hsl : s < D.next.length
        · obtain ⟨row, p3⟩ : ∃ row, D.next[s]? = some row := ⟨_, List.getElem?_eq_getElem hsl⟩
          cases like with
          | false =>
            repeat (first | exact endA | refine wkP ?_ | refine opB (fun b => ?_) | refine opA (fun a' c' hc1 hc2 => ?_) | (apply GJ.and; exact rfl; intro hg) | (apply GJ.or; exact rfl; intro hg))
            repeat (first | exact endA | refine wkU ?_ | (show QOk _ _ _ _ _ _ _; refine QOk.build rfl rfl Nf.auto ?_) | (show GJ _ _ _ _ _ _ _; first | with_reducible refine GJ.neF ?_ | with_reducible refine GJ.neT ?_) | (show Br _ _ _; with_reducible refine Br.ne ?_) | refine opB (fun b => ?_) | refine opA (fun a' c' hc1 hc2 => ?_) | (apply GJ.and; exact rfl; intro hg) | (apply GJ.or; exact rfl; intro hg))
            repeat (first | exact endA | refine wkP ?_ | refine opB (fun b => ?_) | refine opA (fun a' c' hc1 hc2 => ?_) | (apply GJ.and; exact rfl; intro hg) | (apply GJ.or; exact rfl; intro hg))
            refine Wk.id ⟨(s + 1, false), ⟨rfl, ?_⟩, ?_, Sub.auto, Sup.auto⟩
            all_goals try dsimp only
            · exact ⟨by omega, fun h => by cases h⟩
            · omega
          | true =>
            obtain ⟨ar, cr, q1, q2⟩ := hrw s row p3
            have hrl := ho.row row (List.mem_of_getElem? p3)
            obtain ⟨x, hx⟩ : ∃ x, row[i]? = some x := ⟨_, List.getElem?_eq_getElem (by omega)⟩
            obtain ⟨y, hy⟩ : ∃ y, row[k]? = some y := ⟨_, List.getElem?_eq_getElem (by omega)⟩
            have hgx : (row.map (Value.int .i64))[i]? = some (.int .i64 x) := by rw [List.getElem?_map, hx]; rfl
            have hgy : (row.map (Value.int .i64))[k]? = some (.int .i64 y) := by rw [List.getElem?_map, hy]; rfl
            have hbx := bang hx
            have hby := bang hy
            have hold := s2 rfl
            repeat (first | exact endA | refine wkP ?_ | refine opB (fun b => ?_) | refine opA (fun a' c' hc1 hc2 => ?_) | (apply GJ.and; exact rfl; intro hg) | (apply GJ.or; exact rfl; intro hg))
            repeat (first | exact endA | refine wkU ?_ | (show QOk _ _ _ _ _ _ _; refine QOk.build rfl rfl Nf.auto ?_) | (show GJ _ _ _ _ _ _ _; first | with_reducible refine GJ.neF ?_ | with_reducible refine GJ.neT ?_) | (show Br _ _ _; with_reducible refine Br.ne ?_) | refine opB (fun b => ?_) | refine opA (fun a' c' hc1 hc2 => ?_) | (apply GJ.and; exact rfl; intro hg) | (apply GJ.or; exact rfl; intro hg))
            refine QOk.load rfl rfl (Go.E.Ld.rs hrs (by rw [Int.toNat_natCast]; exact q1)) ?_
            repeat (first | exact endA | refine wkU ?_ | (show QOk _ _ _ _ _ _ _; refine QOk.build rfl rfl Nf.auto ?_) | (show GJ _ _ _ _ _ _ _; first | with_reducible refine GJ.neF ?_ | with_reducible refine GJ.neT ?_) | (show Br _ _ _; with_reducible refine Br.ne ?_) | refine opB (fun b => ?_) | refine opA (fun a' c' hc1 hc2 => ?_) | (apply GJ.and; exact rfl; intro hg) | (apply GJ.or; exact rfl; intro hg))
            refine QOk.load rfl rfl (Go.E.Ld.rs hrs (by rw [Int.toNat_natCast]; exact q1)) ?_
            repeat (first | exact endA | refine wkU ?_ | (show QOk _ _ _ _ _ _ _; refine QOk.build rfl rfl Nf.auto ?_) | (show GJ _ _ _ _ _ _ _; first | with_reducible refine GJ.neF ?_ | with_reducible refine GJ.neT ?_) | (show Br _ _ _; with_reducible refine Br.ne ?_) | refine opB (fun b => ?_) | refine opA (fun a' c' hc1 hc2 => ?_) | (apply GJ.and; exact rfl; intro hg) | (apply GJ.or; exact rfl; intro hg))
            rw [hbx, hby]
            repeat (first | exact endA | refine wkP ?_ | refine opB (fun b => ?_) | refine opA (fun a' c' hc1 hc2 => ?_) | (apply GJ.and; exact rfl; intro hg) | (apply GJ.or; exact rfl; intro hg))
            refine Wk.id ⟨(s + 1, decide (x = y)), ⟨rfl, ?_⟩, ?_, Sub.auto, Sup.auto⟩
            all_goals try dsimp only
            · refine ⟨by omega, fun h t r ht hr => ?_⟩
              by_cases e : t = s
              · subst e
                rw [p3] at hr; cases hr
                rw [hx, hy, of_decide_eq_true h]
              · exact hold t r (by omega) hr
            · omega
        · obtain rfl : s = D.next.length := by omega
          cases like with
          | true => exact (cls_diff ho hs hlike hi hki (fun t r hr => s2 rfl t r (List.getElem?_eq_some_iff.1 hr).1 hr)).elim
          | false =>
            repeat (first | exact endA | refine wkP ?_ | refine opB (fun b => ?_) | refine opA (fun a' c' hc1 hc2 => ?_) | (apply GJ.and; exact rfl; intro hg) | (apply GJ.or; exact rfl; intro hg))
            refine Wk.id ⟨k + 1, ⟨rfl, ?_⟩, ?_, Sub.auto, Sup.auto⟩
            all_goals try dsimp only
            · omega
            · omega
      · obtain rfl : k = i := by omega
        repeat (first | exact endA | refine wkP ?_ | refine opB (fun b => ?_) | refine opA (fun a' c' hc1 hc2 => ?_) | (apply GJ.and; exact rfl; intro hg) | (apply GJ.or; exact rfl; intro hg))
        refine Wk.id ⟨k + 1, ⟨rfl, ?_⟩, ?_, Sub.auto, Sup.auto⟩
        all_goals try dsimp only
        · omega
        · omega
    · obtain rfl : i = nx := by omega
      have hm1 : stepA D (-1) 97 = -1 := step_dead (by decide) _
      have hml : stepA D (D.next.length : Int) 97 = -1 := by unfold stepA; rw [if_pos (.inr (Int.le_refl _))]
      repeat (first | exact endA | refine wkP ?_ | refine opB (fun b => ?_) | refine opA (fun a' c' hc1 hc2 => ?_) | (apply GJ.and; exact rfl; intro hg) | (apply GJ.or; exact rfl; intro hg))
      refine dwidth_ok hq2 ?_
      rw [hwd]
      repeat (first | exact endA | refine wkP ?_ | refine opB (fun b => ?_) | refine opA (fun a' c' hc1 hc2 => ?_) | (apply GJ.and; exact rfl; intro hg) | (apply GJ.or; exact rfl; intro hg))
      refine dstepX_ok (c := 97) (by decide) hq2 ho (by decide) ?_
      rw [hm1]
      repeat (first | exact endA | refine wkP ?_ | refine opB (fun b => ?_) | refine opA (fun a' c' hc1 hc2 => ?_) | (apply GJ.and; exact rfl; intro hg) | (apply GJ.or; exact rfl; intro hg))
      refine dlen_ok hq2 ?_
      repeat (first | exact endA | refine wkP ?_ | refine opB (fun b => ?_) | refine opA (fun a' c' hc1 hc2 => ?_) | (apply GJ.and; exact rfl; intro hg) | (apply GJ.or; exact rfl; intro hg))
      refine dstepX_ok (c := 97) (by decide) hq2 ho (by decide) ?_
      rw [hml]
      repeat (first | exact endA | refine wkP ?_ | refine opB (fun b => ?_) | refine opA (fun a' c' hc1 hc2 => ?_) | (apply GJ.and; exact rfl; intro hg) | (apply GJ.or; exact rfl; intro hg))
      skip
      refine Wk.backB ?_ Sup.auto (.refl _) hk
      all_goals simp
end
end Go.Proofs.YtinbmhbfcoiefaaGreatDoor
end
