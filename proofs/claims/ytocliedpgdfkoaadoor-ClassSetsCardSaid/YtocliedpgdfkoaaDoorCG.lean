/- The law ClassSets. -/
import Derived.Test.YtocliedpgdfkoaaDoorCD
import Derived.Test.YtocliedpgdfkoaaDoorCF
import Derived.Test.YtocliedpgdfkoaaDoorV18
namespace Go.Proofs.YtocliedpgdfkoaaDoor
open Go Go.E
set_option linter.unusedVariables false
set_option maxRecDepth 10000
def fstI : Option Nat → Int
  | some c => (c : Int)
  | none => -1
section
variable {ro : Ro} {own r : Chs} {K : Value → Ro → Chs → Prop} {g : Chunk → Chs}
set_option maxHeartbeats 2000000 in
theorem csets_ok {p q : SetD} (ht : TabOk ro) (hp0 : SetIn p) (hq0 : SetIn q) (hk : K (.bool true) ro own) : CallOk Tryd.prog 3 #[.agg (setV p).toArray, .agg (setV q).toArray] ro own K := by
  refine CallOk.intro (args := [_, _]) (rs := [_]) T_ok Tryd.func3 Tryd.call3 rfl rfl (by kernel_rfl) rfl rfl ?_
  repeat (first
    | (show _ ∧ _; exact ⟨rfl, rfl, rfl⟩)
    | refine wkT ?_
    | (show OpOk _ _ _ _ _ _ _; first | refine opB (fun b => ?_) | refine opA (fun a' c' hc1 hc2 => ?_))
    | (show GJ _ _ _ _ _ _ _; first | (apply GJ.and; exact rfl; intro hg) | (apply GJ.or; exact rfl; intro hg)))
  refine sets_ok ht ?_
  obtain ⟨bp, hbp⟩ : ∃ x : Nat, x = b := ⟨_, rfl⟩
  subst hbp
  repeat (first
    | (show _ ∧ _; exact ⟨rfl, rfl, rfl⟩)
    | refine wkN ?_
    | refine Bs.all ?_
    | (show OpOk _ _ _ _ _ _ _; first | refine opB (fun b => ?_) | refine opA (fun a' c' hc1 hc2 => ?_))
    | (show GJ _ _ _ _ _ _ _; first | refine GJ.t (by decide) ?_ | refine GJ.f (by decide) ?_ | refine GJ.ft (by decide) ?_ | refine GJ.ff (by decide) ?_)
    | (show Br _ _ _; first | refine Br.t (by decide) ?_ | refine Br.f (by decide) ?_)
    | (show GJ _ _ _ _ _ _ _; first | (apply GJ.and; exact rfl; intro hg) | (apply GJ.or; exact rfl; intro hg)))
  refine CodeOk.free [Th.val 17 (.agg (setV p).toArray), Th.val 18 (.agg (setV q).toArray), Th.val 19 (.agg (setV (p.and q)).toArray), Th.val 20 (.agg (setV p).toArray), Th.val 21 (.agg (setV q).toArray), Th.val 22 (.agg (setV (p.or q)).toArray), Th.val 23 (.agg (setV p).toArray), Th.val 24 (.agg (setV p.not).toArray), Th.new 5 0 (fun b => [.blk b 24 [.int .u64 0, .int .u64 0, .int .u64 0, .int .u64 0]]), Th.new 6 1 (fun b => [.blk b 24 [.int .u64 0, .int .u64 0, .int .u64 0, .int .u64 0]]), Th.new 7 2 (fun b => [.blk b 24 [.int .u64 0, .int .u64 0, .int .u64 0, .int .u64 0]]), Th.set 5 0 (fun b => [.blk b 24 (setV (p.and q))]), Th.set 6 1 (fun b => [.blk b 24 (setV (p.or q))]), Th.set 7 2 (fun b => [.blk b 24 (setV p.not)])] 3 (fun _ => []) _ Keep.auto (Sup.all _) rfl rfl (by rfl) (by kernel_rfl) ?_ ?_
  · refine ⟨?_, ?_, ?_, ?_, ?_, ?_, ?_, ?_, ?_, ?_, ?_, ?_, ?_, ?_, trivial⟩
    · intro env c F h0 hp hb
      subst hb
      refine ⟨_, h0, ?_⟩
      dsimp only [List.cons_append, List.nil_append]
      repeat (first
        | (show _ ∧ _; exact ⟨rfl, rfl, rfl⟩)
        | refine wkN ?_
        | refine Bs.all ?_
        | (show OpOk _ _ _ _ _ _ _; first | refine opB (fun b => ?_) | refine opA (fun a' c' hc1 hc2 => ?_))
        | (show GJ _ _ _ _ _ _ _; first | refine GJ.t (by decide) ?_ | refine GJ.f (by decide) ?_ | refine GJ.ft (by decide) ?_ | refine GJ.ff (by decide) ?_)
        | (show Br _ _ _; first | refine Br.t (by decide) ?_ | refine Br.f (by decide) ?_)
        | (show GJ _ _ _ _ _ _ _; first | (apply GJ.and; exact rfl; intro hg) | (apply GJ.or; exact rfl; intro hg)))
      exact ⟨rfl, rfl, [], rfl, Sup.all _⟩
    · intro env c F h0 hp hb
      subst hb
      refine ⟨_, h0, ?_⟩
      dsimp only [List.cons_append, List.nil_append]
      repeat (first
        | (show _ ∧ _; exact ⟨rfl, rfl, rfl⟩)
        | refine wkN ?_
        | refine Bs.all ?_
        | (show OpOk _ _ _ _ _ _ _; first | refine opB (fun b => ?_) | refine opA (fun a' c' hc1 hc2 => ?_))
        | (show GJ _ _ _ _ _ _ _; first | refine GJ.t (by decide) ?_ | refine GJ.f (by decide) ?_ | refine GJ.ft (by decide) ?_ | refine GJ.ff (by decide) ?_)
        | (show Br _ _ _; first | refine Br.t (by decide) ?_ | refine Br.f (by decide) ?_)
        | (show GJ _ _ _ _ _ _ _; first | (apply GJ.and; exact rfl; intro hg) | (apply GJ.or; exact rfl; intro hg)))
      exact ⟨rfl, rfl, [], rfl, Sup.all _⟩
    · intro env c F h0 hp hb
      subst hb
      have h18 : E.look env 18 = some (.agg (setV q).toArray) := (by first | exact hp.1 | exact hp.2.1 | exact hp.2.2.1 | exact hp.2.2.2.1 | exact hp.2.2.2.2.1 | exact hp.2.2.2.2.2.1 | exact hp.2.2.2.2.2.2.1 | exact hp.2.2.2.2.2.2.2.1 | exact hp.2.2.2.2.2.2.2.2.1 | exact hp.2.2.2.2.2.2.2.2.2.1 | exact hp.2.2.2.2.2.2.2.2.2.2.1 | exact hp.2.2.2.2.2.2.2.2.2.2.2.1)
      have h17 : E.look env 17 = some (.agg (setV p).toArray) := (by first | exact hp.1 | exact hp.2.1 | exact hp.2.2.1 | exact hp.2.2.2.1 | exact hp.2.2.2.2.1 | exact hp.2.2.2.2.2.1 | exact hp.2.2.2.2.2.2.1 | exact hp.2.2.2.2.2.2.2.1 | exact hp.2.2.2.2.2.2.2.2.1 | exact hp.2.2.2.2.2.2.2.2.2.1 | exact hp.2.2.2.2.2.2.2.2.2.2.1 | exact hp.2.2.2.2.2.2.2.2.2.2.2.1)
      refine ⟨_, (Sub2.cons h17 (Sub2.cons h18 h0)), ?_⟩
      dsimp only [List.cons_append, List.nil_append]
      repeat (first
        | (show _ ∧ _; exact ⟨rfl, rfl, rfl⟩)
        | refine wkN ?_
        | refine Bs.all ?_
        | (show OpOk _ _ _ _ _ _ _; first | refine opB (fun b => ?_) | refine opA (fun a' c' hc1 hc2 => ?_))
        | (show GJ _ _ _ _ _ _ _; first | refine GJ.t (by decide) ?_ | refine GJ.f (by decide) ?_ | refine GJ.ft (by decide) ?_ | refine GJ.ff (by decide) ?_)
        | (show Br _ _ _; first | refine Br.t (by decide) ?_ | refine Br.f (by decide) ?_)
        | (show GJ _ _ _ _ _ _ _; first | (apply GJ.and; exact rfl; intro hg) | (apply GJ.or; exact rfl; intro hg)))
      refine and_ok hp0 hq0 ?_
      repeat (first
        | (show _ ∧ _; exact ⟨rfl, rfl, rfl⟩)
        | refine wkN ?_
        | refine Bs.all ?_
        | (show OpOk _ _ _ _ _ _ _; first | refine opB (fun b => ?_) | refine opA (fun a' c' hc1 hc2 => ?_))
        | (show GJ _ _ _ _ _ _ _; first | refine GJ.t (by decide) ?_ | refine GJ.f (by decide) ?_ | refine GJ.ft (by decide) ?_ | refine GJ.ff (by decide) ?_)
        | (show Br _ _ _; first | refine Br.t (by decide) ?_ | refine Br.f (by decide) ?_)
        | (show GJ _ _ _ _ _ _ _; first | (apply GJ.and; exact rfl; intro hg) | (apply GJ.or; exact rfl; intro hg)))
      exact ⟨rfl, rfl, [], rfl, Sup.all _⟩
    · intro env c F h0 hp hb
      subst hb
      refine ⟨_, h0, ?_⟩
      dsimp only [List.cons_append, List.nil_append]
      repeat (first
        | (show _ ∧ _; exact ⟨rfl, rfl, rfl⟩)
        | refine wkN ?_
        | refine Bs.all ?_
        | (show OpOk _ _ _ _ _ _ _; first | refine opB (fun b => ?_) | refine opA (fun a' c' hc1 hc2 => ?_))
        | (show GJ _ _ _ _ _ _ _; first | refine GJ.t (by decide) ?_ | refine GJ.f (by decide) ?_ | refine GJ.ft (by decide) ?_ | refine GJ.ff (by decide) ?_)
        | (show Br _ _ _; first | refine Br.t (by decide) ?_ | refine Br.f (by decide) ?_)
        | (show GJ _ _ _ _ _ _ _; first | (apply GJ.and; exact rfl; intro hg) | (apply GJ.or; exact rfl; intro hg)))
      exact ⟨rfl, rfl, [], rfl, Sup.all _⟩
    · intro env c F h0 hp hb
      subst hb
      refine ⟨_, h0, ?_⟩
      dsimp only [List.cons_append, List.nil_append]
      repeat (first
        | (show _ ∧ _; exact ⟨rfl, rfl, rfl⟩)
        | refine wkN ?_
        | refine Bs.all ?_
        | (show OpOk _ _ _ _ _ _ _; first | refine opB (fun b => ?_) | refine opA (fun a' c' hc1 hc2 => ?_))
        | (show GJ _ _ _ _ _ _ _; first | refine GJ.t (by decide) ?_ | refine GJ.f (by decide) ?_ | refine GJ.ft (by decide) ?_ | refine GJ.ff (by decide) ?_)
        | (show Br _ _ _; first | refine Br.t (by decide) ?_ | refine Br.f (by decide) ?_)
        | (show GJ _ _ _ _ _ _ _; first | (apply GJ.and; exact rfl; intro hg) | (apply GJ.or; exact rfl; intro hg)))
      exact ⟨rfl, rfl, [], rfl, Sup.all _⟩
    · intro env c F h0 hp hb
      subst hb
      have h21 : E.look env 21 = some (.agg (setV q).toArray) := (by first | exact hp.1 | exact hp.2.1 | exact hp.2.2.1 | exact hp.2.2.2.1 | exact hp.2.2.2.2.1 | exact hp.2.2.2.2.2.1 | exact hp.2.2.2.2.2.2.1 | exact hp.2.2.2.2.2.2.2.1 | exact hp.2.2.2.2.2.2.2.2.1 | exact hp.2.2.2.2.2.2.2.2.2.1 | exact hp.2.2.2.2.2.2.2.2.2.2.1 | exact hp.2.2.2.2.2.2.2.2.2.2.2.1)
      have h20 : E.look env 20 = some (.agg (setV p).toArray) := (by first | exact hp.1 | exact hp.2.1 | exact hp.2.2.1 | exact hp.2.2.2.1 | exact hp.2.2.2.2.1 | exact hp.2.2.2.2.2.1 | exact hp.2.2.2.2.2.2.1 | exact hp.2.2.2.2.2.2.2.1 | exact hp.2.2.2.2.2.2.2.2.1 | exact hp.2.2.2.2.2.2.2.2.2.1 | exact hp.2.2.2.2.2.2.2.2.2.2.1 | exact hp.2.2.2.2.2.2.2.2.2.2.2.1)
      refine ⟨_, (Sub2.cons h20 (Sub2.cons h21 h0)), ?_⟩
      dsimp only [List.cons_append, List.nil_append]
      repeat (first
        | (show _ ∧ _; exact ⟨rfl, rfl, rfl⟩)
        | refine wkN ?_
        | refine Bs.all ?_
        | (show OpOk _ _ _ _ _ _ _; first | refine opB (fun b => ?_) | refine opA (fun a' c' hc1 hc2 => ?_))
        | (show GJ _ _ _ _ _ _ _; first | refine GJ.t (by decide) ?_ | refine GJ.f (by decide) ?_ | refine GJ.ft (by decide) ?_ | refine GJ.ff (by decide) ?_)
        | (show Br _ _ _; first | refine Br.t (by decide) ?_ | refine Br.f (by decide) ?_)
        | (show GJ _ _ _ _ _ _ _; first | (apply GJ.and; exact rfl; intro hg) | (apply GJ.or; exact rfl; intro hg)))
      refine or_ok hp0 hq0 ?_
      repeat (first
        | (show _ ∧ _; exact ⟨rfl, rfl, rfl⟩)
        | refine wkN ?_
        | refine Bs.all ?_
        | (show OpOk _ _ _ _ _ _ _; first | refine opB (fun b => ?_) | refine opA (fun a' c' hc1 hc2 => ?_))
        | (show GJ _ _ _ _ _ _ _; first | refine GJ.t (by decide) ?_ | refine GJ.f (by decide) ?_ | refine GJ.ft (by decide) ?_ | refine GJ.ff (by decide) ?_)
        | (show Br _ _ _; first | refine Br.t (by decide) ?_ | refine Br.f (by decide) ?_)
        | (show GJ _ _ _ _ _ _ _; first | (apply GJ.and; exact rfl; intro hg) | (apply GJ.or; exact rfl; intro hg)))
      exact ⟨rfl, rfl, [], rfl, Sup.all _⟩
    · intro env c F h0 hp hb
      subst hb
      refine ⟨_, h0, ?_⟩
      dsimp only [List.cons_append, List.nil_append]
      repeat (first
        | (show _ ∧ _; exact ⟨rfl, rfl, rfl⟩)
        | refine wkN ?_
        | refine Bs.all ?_
        | (show OpOk _ _ _ _ _ _ _; first | refine opB (fun b => ?_) | refine opA (fun a' c' hc1 hc2 => ?_))
        | (show GJ _ _ _ _ _ _ _; first | refine GJ.t (by decide) ?_ | refine GJ.f (by decide) ?_ | refine GJ.ft (by decide) ?_ | refine GJ.ff (by decide) ?_)
        | (show Br _ _ _; first | refine Br.t (by decide) ?_ | refine Br.f (by decide) ?_)
        | (show GJ _ _ _ _ _ _ _; first | (apply GJ.and; exact rfl; intro hg) | (apply GJ.or; exact rfl; intro hg)))
      exact ⟨rfl, rfl, [], rfl, Sup.all _⟩
    · intro env c F h0 hp hb
      subst hb
      have h23 : E.look env 23 = some (.agg (setV p).toArray) := (by first | exact hp.1 | exact hp.2.1 | exact hp.2.2.1 | exact hp.2.2.2.1 | exact hp.2.2.2.2.1 | exact hp.2.2.2.2.2.1 | exact hp.2.2.2.2.2.2.1 | exact hp.2.2.2.2.2.2.2.1 | exact hp.2.2.2.2.2.2.2.2.1 | exact hp.2.2.2.2.2.2.2.2.2.1 | exact hp.2.2.2.2.2.2.2.2.2.2.1 | exact hp.2.2.2.2.2.2.2.2.2.2.2.1)
      refine ⟨_, (Sub2.cons h23 h0), ?_⟩
      dsimp only [List.cons_append, List.nil_append]
      repeat (first
        | (show _ ∧ _; exact ⟨rfl, rfl, rfl⟩)
        | refine wkN ?_
        | refine Bs.all ?_
        | (show OpOk _ _ _ _ _ _ _; first | refine opB (fun b => ?_) | refine opA (fun a' c' hc1 hc2 => ?_))
        | (show GJ _ _ _ _ _ _ _; first | refine GJ.t (by decide) ?_ | refine GJ.f (by decide) ?_ | refine GJ.ft (by decide) ?_ | refine GJ.ff (by decide) ?_)
        | (show Br _ _ _; first | refine Br.t (by decide) ?_ | refine Br.f (by decide) ?_)
        | (show GJ _ _ _ _ _ _ _; first | (apply GJ.and; exact rfl; intro hg) | (apply GJ.or; exact rfl; intro hg)))
      refine not_ok hp0 ?_
      repeat (first
        | (show _ ∧ _; exact ⟨rfl, rfl, rfl⟩)
        | refine wkN ?_
        | refine Bs.all ?_
        | (show OpOk _ _ _ _ _ _ _; first | refine opB (fun b => ?_) | refine opA (fun a' c' hc1 hc2 => ?_))
        | (show GJ _ _ _ _ _ _ _; first | refine GJ.t (by decide) ?_ | refine GJ.f (by decide) ?_ | refine GJ.ft (by decide) ?_ | refine GJ.ff (by decide) ?_)
        | (show Br _ _ _; first | refine Br.t (by decide) ?_ | refine Br.f (by decide) ?_)
        | (show GJ _ _ _ _ _ _ _; first | (apply GJ.and; exact rfl; intro hg) | (apply GJ.or; exact rfl; intro hg)))
      exact ⟨rfl, rfl, [], rfl, Sup.all _⟩
    · intro env c F h0 hp hb
      obtain rfl : c = [] := hb
      refine ⟨_, h0, ?_⟩
      dsimp only [List.cons_append, List.nil_append]
      repeat (first
        | (show _ ∧ _; exact ⟨rfl, rfl, rfl⟩)
        | refine wkN ?_
        | refine Bs.all ?_
        | (show OpOk _ _ _ _ _ _ _; first | refine opB (fun b => ?_) | refine opA (fun a' c' hc1 hc2 => ?_))
        | (show GJ _ _ _ _ _ _ _; first | refine GJ.t (by decide) ?_ | refine GJ.f (by decide) ?_ | refine GJ.ft (by decide) ?_ | refine GJ.ff (by decide) ?_)
        | (show Br _ _ _; first | refine Br.t (by decide) ?_ | refine Br.f (by decide) ?_)
        | (show GJ _ _ _ _ _ _ _; first | (apply GJ.and; exact rfl; intro hg) | (apply GJ.or; exact rfl; intro hg)))
      exact ⟨rfl, ⟨_, rfl⟩, [.blk b 24 [.int .u64 0, .int .u64 0, .int .u64 0, .int .u64 0]], ⟨_, rfl, rfl⟩, Sup.all _⟩
    · intro env c F h0 hp hb
      obtain rfl : c = [] := hb
      refine ⟨_, h0, ?_⟩
      dsimp only [List.cons_append, List.nil_append]
      repeat (first
        | (show _ ∧ _; exact ⟨rfl, rfl, rfl⟩)
        | refine wkN ?_
        | refine Bs.all ?_
        | (show OpOk _ _ _ _ _ _ _; first | refine opB (fun b => ?_) | refine opA (fun a' c' hc1 hc2 => ?_))
        | (show GJ _ _ _ _ _ _ _; first | refine GJ.t (by decide) ?_ | refine GJ.f (by decide) ?_ | refine GJ.ft (by decide) ?_ | refine GJ.ff (by decide) ?_)
        | (show Br _ _ _; first | refine Br.t (by decide) ?_ | refine Br.f (by decide) ?_)
        | (show GJ _ _ _ _ _ _ _; first | (apply GJ.and; exact rfl; intro hg) | (apply GJ.or; exact rfl; intro hg)))
      exact ⟨rfl, ⟨_, rfl⟩, [.blk b 24 [.int .u64 0, .int .u64 0, .int .u64 0, .int .u64 0]], ⟨_, rfl, rfl⟩, Sup.all _⟩
    · intro env c F h0 hp hb
      obtain rfl : c = [] := hb
      refine ⟨_, h0, ?_⟩
      dsimp only [List.cons_append, List.nil_append]
      repeat (first
        | (show _ ∧ _; exact ⟨rfl, rfl, rfl⟩)
        | refine wkN ?_
        | refine Bs.all ?_
        | (show OpOk _ _ _ _ _ _ _; first | refine opB (fun b => ?_) | refine opA (fun a' c' hc1 hc2 => ?_))
        | (show GJ _ _ _ _ _ _ _; first | refine GJ.t (by decide) ?_ | refine GJ.f (by decide) ?_ | refine GJ.ft (by decide) ?_ | refine GJ.ff (by decide) ?_)
        | (show Br _ _ _; first | refine Br.t (by decide) ?_ | refine Br.f (by decide) ?_)
        | (show GJ _ _ _ _ _ _ _; first | (apply GJ.and; exact rfl; intro hg) | (apply GJ.or; exact rfl; intro hg)))
      exact ⟨rfl, ⟨_, rfl⟩, [.blk b 24 [.int .u64 0, .int .u64 0, .int .u64 0, .int .u64 0]], ⟨_, rfl, rfl⟩, Sup.all _⟩
    · intro env c F h0 hp hb
      obtain ⟨b, hb1, rfl⟩ : ∃ b, E.look env 5 = some (ptr' b) ∧ c = [.blk b 24 [.int .u64 0, .int .u64 0, .int .u64 0, .int .u64 0]] := hb
      have h1 : E.look env 19 = some (.agg (setV (p.and q)).toArray) := (by first | exact hp.1 | exact hp.2.1 | exact hp.2.2.1 | exact hp.2.2.2.1 | exact hp.2.2.2.2.1 | exact hp.2.2.2.2.2.1 | exact hp.2.2.2.2.2.2.1 | exact hp.2.2.2.2.2.2.2.1 | exact hp.2.2.2.2.2.2.2.2.1 | exact hp.2.2.2.2.2.2.2.2.2.1 | exact hp.2.2.2.2.2.2.2.2.2.2.1 | exact hp.2.2.2.2.2.2.2.2.2.2.2.1)
      refine ⟨_, Sub2.cons hb1 (Sub2.cons h1 h0), ?_⟩
      dsimp only [List.cons_append, List.nil_append]
      repeat (first
        | (show _ ∧ _; exact ⟨rfl, rfl, rfl⟩)
        | refine wkN ?_
        | refine Bs.all ?_
        | (show OpOk _ _ _ _ _ _ _; first | refine opB (fun b => ?_) | refine opA (fun a' c' hc1 hc2 => ?_))
        | (show GJ _ _ _ _ _ _ _; first | refine GJ.t (by decide) ?_ | refine GJ.f (by decide) ?_ | refine GJ.ft (by decide) ?_ | refine GJ.ff (by decide) ?_)
        | (show Br _ _ _; first | refine Br.t (by decide) ?_ | refine Br.f (by decide) ?_)
        | (show GJ _ _ _ _ _ _ _; first | (apply GJ.and; exact rfl; intro hg) | (apply GJ.or; exact rfl; intro hg)))
      exact ⟨rfl, trivial, [.blk b 24 (setV (p.and q))], ⟨_, rfl, rfl⟩, Sup.all _⟩
    · intro env c F h0 hp hb
      obtain ⟨b, hb1, rfl⟩ : ∃ b, E.look env 6 = some (ptr' b) ∧ c = [.blk b 24 [.int .u64 0, .int .u64 0, .int .u64 0, .int .u64 0]] := hb
      have h1 : E.look env 22 = some (.agg (setV (p.or q)).toArray) := (by first | exact hp.1 | exact hp.2.1 | exact hp.2.2.1 | exact hp.2.2.2.1 | exact hp.2.2.2.2.1 | exact hp.2.2.2.2.2.1 | exact hp.2.2.2.2.2.2.1 | exact hp.2.2.2.2.2.2.2.1 | exact hp.2.2.2.2.2.2.2.2.1 | exact hp.2.2.2.2.2.2.2.2.2.1 | exact hp.2.2.2.2.2.2.2.2.2.2.1 | exact hp.2.2.2.2.2.2.2.2.2.2.2.1)
      refine ⟨_, Sub2.cons hb1 (Sub2.cons h1 h0), ?_⟩
      dsimp only [List.cons_append, List.nil_append]
      repeat (first
        | (show _ ∧ _; exact ⟨rfl, rfl, rfl⟩)
        | refine wkN ?_
        | refine Bs.all ?_
        | (show OpOk _ _ _ _ _ _ _; first | refine opB (fun b => ?_) | refine opA (fun a' c' hc1 hc2 => ?_))
        | (show GJ _ _ _ _ _ _ _; first | refine GJ.t (by decide) ?_ | refine GJ.f (by decide) ?_ | refine GJ.ft (by decide) ?_ | refine GJ.ff (by decide) ?_)
        | (show Br _ _ _; first | refine Br.t (by decide) ?_ | refine Br.f (by decide) ?_)
        | (show GJ _ _ _ _ _ _ _; first | (apply GJ.and; exact rfl; intro hg) | (apply GJ.or; exact rfl; intro hg)))
      exact ⟨rfl, trivial, [.blk b 24 (setV (p.or q))], ⟨_, rfl, rfl⟩, Sup.all _⟩
    · intro env c F h0 hp hb
      obtain ⟨b, hb1, rfl⟩ : ∃ b, E.look env 7 = some (ptr' b) ∧ c = [.blk b 24 [.int .u64 0, .int .u64 0, .int .u64 0, .int .u64 0]] := hb
      have h1 : E.look env 24 = some (.agg (setV p.not).toArray) := (by first | exact hp.1 | exact hp.2.1 | exact hp.2.2.1 | exact hp.2.2.2.1 | exact hp.2.2.2.2.1 | exact hp.2.2.2.2.2.1 | exact hp.2.2.2.2.2.2.1 | exact hp.2.2.2.2.2.2.2.1 | exact hp.2.2.2.2.2.2.2.2.1 | exact hp.2.2.2.2.2.2.2.2.2.1 | exact hp.2.2.2.2.2.2.2.2.2.2.1 | exact hp.2.2.2.2.2.2.2.2.2.2.2.1)
      refine ⟨_, Sub2.cons hb1 (Sub2.cons h1 h0), ?_⟩
      dsimp only [List.cons_append, List.nil_append]
      repeat (first
        | (show _ ∧ _; exact ⟨rfl, rfl, rfl⟩)
        | refine wkN ?_
        | refine Bs.all ?_
        | (show OpOk _ _ _ _ _ _ _; first | refine opB (fun b => ?_) | refine opA (fun a' c' hc1 hc2 => ?_))
        | (show GJ _ _ _ _ _ _ _; first | refine GJ.t (by decide) ?_ | refine GJ.f (by decide) ?_ | refine GJ.ft (by decide) ?_ | refine GJ.ff (by decide) ?_)
        | (show Br _ _ _; first | refine Br.t (by decide) ?_ | refine Br.f (by decide) ?_)
        | (show GJ _ _ _ _ _ _ _; first | (apply GJ.and; exact rfl; intro hg) | (apply GJ.or; exact rfl; intro hg)))
      exact ⟨rfl, trivial, [.blk b 24 (setV p.not)], ⟨_, rfl, rfl⟩, Sup.all _⟩
  · intro env cs h0 hp hf
    obtain ⟨⟨b5, e5, c0⟩, ⟨b6, e6, c1⟩, ⟨b7, e7, c2⟩, _⟩ : (∃ b, E.look env 5 = some (ptr' b) ∧ cs 0 = [.blk b 24 (setV (p.and q))]) ∧ (∃ b, E.look env 6 = some (ptr' b) ∧ cs 1 = [.blk b 24 (setV (p.or q))]) ∧ (∃ b, E.look env 7 = some (ptr' b) ∧ cs 2 = [.blk b 24 (setV p.not)]) ∧ True := hf
    refine ⟨_, Sub2.cons e5 (Sub2.cons e6 (Sub2.cons e7 h0)), ?_⟩
    have hcat : catN cs 0 3 = [.blk b5 24 (setV (p.and q)), .blk b6 24 (setV (p.or q)), .blk b7 24 (setV p.not)] := by
      show cs 0 ++ (cs 1 ++ (cs 2 ++ [])) = _
      rw [c0, c1, c2]; rfl
    rw [hcat]
    clear hcat hp h0 e5 e6 e7 c0 c1 c2
    have hd256 : (List.range 256).drop 256 = [] := List.drop_eq_nil_of_le (by simp)
    dsimp only [List.cons_append, List.nil_append]
    repeat (first
      | (show _ ∧ _; exact ⟨rfl, rfl, rfl⟩)
      | refine wkT ?_
      | refine Bs.all ?_
      | (show OpOk _ _ _ _ _ _ _; first | refine opB (fun b => ?_) | refine opA (fun a' c' hc1 hc2 => ?_))
      | (show GJ _ _ _ _ _ _ _; first | refine GJ.t (by decide) ?_ | refine GJ.f (by decide) ?_ | refine GJ.ft (by decide) ?_ | refine GJ.ff (by decide) ?_)
      | (show Br _ _ _; first | refine Br.t (by decide) ?_ | refine Br.f (by decide) ?_)
      | (show GJ _ _ _ _ _ _ _; first | (apply GJ.and; exact rfl; intro hg) | (apply GJ.or; exact rfl; intro hg)))
    refine LoopOk.at (ι := Nat × Nat × Int) Keep.auto (fun (k, n, f) => [(10, .int .i64 ((k : Int) - 1)), (8, .int .i64 (n : Int)), (9, .int .i64 f)]) (fun (k, n, f) => .blk b5 24 (setV (p.and q)) :: .blk b6 24 (setV (p.or q)) :: .blk b7 24 (setV p.not) :: .blk bp 24 (setV q) :: .blk b 24 (setV p) :: own) (fun (k, n, f) => k ≤ 256 ∧ n = ((List.range 256).drop k).countP p.has ∧ n ≤ 256 ∧ f = fstI (((List.range 256).drop k).find? p.has)) (fun (k, n, f) => k) (256, 0, -1) ?_ Sub.auto Sup.auto ?_
    · exact ⟨by omega, by rw [hd256]; rfl, by omega, by rw [hd256]; rfl⟩
    rintro ⟨k0, n, f⟩ ⟨i1, i2, i3, i4⟩
    dsimp only [List.cons_append, List.nil_append] at i1 i2 i3 i4 ⊢
    have i5 : n ≤ 256 - k0 := by rw [i2]; exact Nat.le_trans (List.countP_le_length) (by simp)
    by_cases hk0 : k0 = 0
    · subst hk0
      have hn : n = p.len := by rw [i2, SetD.len_count]; rfl
      repeat (first
        | (show _ ∧ _; exact ⟨rfl, rfl, rfl⟩)
        | refine wkT ?_
        | refine Bs.all ?_
        | (show OpOk _ _ _ _ _ _ _; first | refine opB (fun b => ?_) | refine opA (fun a' c' hc1 hc2 => ?_))
        | (show GJ _ _ _ _ _ _ _; first | refine GJ.t (by decide) ?_ | refine GJ.f (by decide) ?_ | refine GJ.ft (by decide) ?_ | refine GJ.ff (by decide) ?_)
        | (show Br _ _ _; first | refine Br.t (by decide) ?_ | refine Br.f (by decide) ?_)
        | (show GJ _ _ _ _ _ _ _; first | (apply GJ.and; exact rfl; intro hg) | (apply GJ.or; exact rfl; intro hg)))
      refine first_ok ht hp0 (fun hz => ?_) (fun c hc h3 h4 => ?_)
      · have hn0 : n = 0 := by rw [hn, hz]; decide +kernel
        have hf : f = -1 := by rw [i4, hz]; decide +kernel
        subst hn0
        subst hf
        repeat (first
          | (show _ ∧ _; exact ⟨rfl, rfl, rfl⟩)
          | refine wkT ?_
          | refine Bs.all ?_
          | (show OpOk _ _ _ _ _ _ _; first | refine opB (fun b => ?_) | refine opA (fun a' c' hc1 hc2 => ?_))
          | (show GJ _ _ _ _ _ _ _; first | refine GJ.t (by decide) ?_ | refine GJ.f (by decide) ?_ | refine GJ.ft (by decide) ?_ | refine GJ.ff (by decide) ?_)
          | (show Br _ _ _; first | refine Br.t (by decide) ?_ | refine Br.f (by decide) ?_)
          | (show GJ _ _ _ _ _ _ _; first | (apply GJ.and; exact rfl; intro hg) | (apply GJ.or; exact rfl; intro hg)))
        refine len_ok hp0 ?_
        rw [← hn]
        repeat (first
          | (show _ ∧ _; exact ⟨rfl, rfl, rfl⟩)
          | refine wkT ?_
          | refine Bs.all ?_
          | (show OpOk _ _ _ _ _ _ _; first | refine opB (fun b => ?_) | refine opA (fun a' c' hc1 hc2 => ?_))
          | (show GJ _ _ _ _ _ _ _; first | refine GJ.t (by decide) ?_ | refine GJ.f (by decide) ?_ | refine GJ.ft (by decide) ?_ | refine GJ.ff (by decide) ?_)
          | (show Br _ _ _; first | refine Br.t (by decide) ?_ | refine Br.f (by decide) ?_)
          | (show GJ _ _ _ _ _ _ _; first | (apply GJ.and; exact rfl; intro hg) | (apply GJ.or; exact rfl; intro hg)))
        refine empty_ok ?_
        rw [decide_eq_true hz]
        repeat (first
          | (show _ ∧ _; exact ⟨rfl, rfl, rfl⟩)
          | refine wkT ?_
          | refine Bs.all ?_
          | (show OpOk _ _ _ _ _ _ _; first | refine opB (fun b => ?_) | refine opA (fun a' c' hc1 hc2 => ?_))
          | (show GJ _ _ _ _ _ _ _; first | refine GJ.t (by decide) ?_ | refine GJ.f (by decide) ?_ | refine GJ.ft (by decide) ?_ | refine GJ.ff (by decide) ?_)
          | (show Br _ _ _; first | refine Br.t (by decide) ?_ | refine Br.f (by decide) ?_)
          | (show GJ _ _ _ _ _ _ _; first | (apply GJ.and; exact rfl; intro hg) | (apply GJ.or; exact rfl; intro hg)))
        refine check_ok ?_
        rw [if_pos hz]
        repeat (first
          | (show _ ∧ _; exact ⟨rfl, rfl, rfl⟩)
          | refine wkT ?_
          | refine Bs.all ?_
          | (show OpOk _ _ _ _ _ _ _; first | refine opB (fun b => ?_) | refine opA (fun a' c' hc1 hc2 => ?_))
          | (show GJ _ _ _ _ _ _ _; first | refine GJ.t (by decide) ?_ | refine GJ.f (by decide) ?_ | refine GJ.ft (by decide) ?_ | refine GJ.ff (by decide) ?_)
          | (show Br _ _ _; first | refine Br.t (by decide) ?_ | refine Br.f (by decide) ?_)
          | (show GJ _ _ _ _ _ _ _; first | (apply GJ.and; exact rfl; intro hg) | (apply GJ.or; exact rfl; intro hg)))
        refine check_ok ?_
        rw [if_pos hz]
        repeat (first
          | (show _ ∧ _; exact ⟨rfl, rfl, rfl⟩)
          | refine wkT ?_
          | refine Bs.all ?_
          | (show OpOk _ _ _ _ _ _ _; first | refine opB (fun b => ?_) | refine opA (fun a' c' hc1 hc2 => ?_))
          | (show GJ _ _ _ _ _ _ _; first | refine GJ.t (by decide) ?_ | refine GJ.f (by decide) ?_ | refine GJ.ft (by decide) ?_ | refine GJ.ff (by decide) ?_)
          | (show Br _ _ _; first | refine Br.t (by decide) ?_ | refine Br.f (by decide) ?_)
          | (show GJ _ _ _ _ _ _ _; first | (apply GJ.and; exact rfl; intro hg) | (apply GJ.or; exact rfl; intro hg)))
        exact Wk.outV Sup.auto hk rfl
      · have hne : p ≠ ⟨0, 0, 0, 0⟩ := fun e => by rw [e, SetD.has_zero] at h3; cases h3
        have hn1 : 1 ≤ n := by
          rcases Nat.eq_zero_or_pos n with h | h
          · exact absurd (len_zero hp0 (by rw [← hn, h])) hne
          · exact h
        have hf : f = (c : Int) := by
          have h5 : (List.range 256).find? p.has = some c := by
            rw [List.find?_range_eq_some]
            exact ⟨h3, List.mem_range.2 hc, fun j hj => by rw [h4 j hj]; rfl⟩
          rw [i4, List.drop_zero, h5]; rfl
        subst hf
        have hd0 : decide ((n : Int) = 0) = false := decide_eq_false (by omega)
        have hd1 : decide ((n : Int) > 0) = true := decide_eq_true (by omega)
        repeat (first
          | (show _ ∧ _; exact ⟨rfl, rfl, rfl⟩)
          | refine wkT ?_
          | refine Bs.all ?_
          | (show OpOk _ _ _ _ _ _ _; first | refine opB (fun b => ?_) | refine opA (fun a' c' hc1 hc2 => ?_))
          | (show GJ _ _ _ _ _ _ _; first | refine GJ.t (by decide) ?_ | refine GJ.f (by decide) ?_ | refine GJ.ft (by decide) ?_ | refine GJ.ff (by decide) ?_)
          | (show Br _ _ _; first | refine Br.t (by decide) ?_ | refine Br.f (by decide) ?_)
          | (show GJ _ _ _ _ _ _ _; first | (apply GJ.and; exact rfl; intro hg) | (apply GJ.or; exact rfl; intro hg)))
        refine len_ok hp0 ?_
        rw [← hn]
        repeat (first
          | (show _ ∧ _; exact ⟨rfl, rfl, rfl⟩)
          | refine wkT ?_
          | refine Bs.all ?_
          | (show OpOk _ _ _ _ _ _ _; first | refine opB (fun b => ?_) | refine opA (fun a' c' hc1 hc2 => ?_))
          | (show GJ _ _ _ _ _ _ _; first | refine GJ.t (by decide) ?_ | refine GJ.f (by decide) ?_ | refine GJ.ft (by decide) ?_ | refine GJ.ff (by decide) ?_)
          | (show Br _ _ _; first | refine Br.t (by decide) ?_ | refine Br.f (by decide) ?_)
          | (show GJ _ _ _ _ _ _ _; first | (apply GJ.and; exact rfl; intro hg) | (apply GJ.or; exact rfl; intro hg)))
        refine empty_ok ?_
        rw [decide_eq_false hne]
        repeat (first
          | (show _ ∧ _; exact ⟨rfl, rfl, rfl⟩)
          | refine wkT ?_
          | refine Bs.all ?_
          | (show OpOk _ _ _ _ _ _ _; first | refine opB (fun b => ?_) | refine opA (fun a' c' hc1 hc2 => ?_))
          | (show GJ _ _ _ _ _ _ _; first | refine GJ.t (by decide) ?_ | refine GJ.f (by decide) ?_ | refine GJ.ft (by decide) ?_ | refine GJ.ff (by decide) ?_)
          | (show Br _ _ _; first | refine Br.t (by decide) ?_ | refine Br.f (by decide) ?_)
          | (show GJ _ _ _ _ _ _ _; first | (apply GJ.and; exact rfl; intro hg) | (apply GJ.or; exact rfl; intro hg)))
        try rw [hd0]
        repeat (first
          | (show _ ∧ _; exact ⟨rfl, rfl, rfl⟩)
          | refine wkT ?_
          | refine Bs.all ?_
          | (show OpOk _ _ _ _ _ _ _; first | refine opB (fun b => ?_) | refine opA (fun a' c' hc1 hc2 => ?_))
          | (show GJ _ _ _ _ _ _ _; first | refine GJ.t (by decide) ?_ | refine GJ.f (by decide) ?_ | refine GJ.ft (by decide) ?_ | refine GJ.ff (by decide) ?_)
          | (show Br _ _ _; first | refine Br.t (by decide) ?_ | refine Br.f (by decide) ?_)
          | (show GJ _ _ _ _ _ _ _; first | (apply GJ.and; exact rfl; intro hg) | (apply GJ.or; exact rfl; intro hg)))
        try rw [hd1]
        repeat (first
          | (show _ ∧ _; exact ⟨rfl, rfl, rfl⟩)
          | refine wkT ?_
          | refine Bs.all ?_
          | (show OpOk _ _ _ _ _ _ _; first | refine opB (fun b => ?_) | refine opA (fun a' c' hc1 hc2 => ?_))
          | (show GJ _ _ _ _ _ _ _; first | refine GJ.t (by decide) ?_ | refine GJ.f (by decide) ?_ | refine GJ.ft (by decide) ?_ | refine GJ.ff (by decide) ?_)
          | (show Br _ _ _; first | refine Br.t (by decide) ?_ | refine Br.f (by decide) ?_)
          | (show GJ _ _ _ _ _ _ _; first | (apply GJ.and; exact rfl; intro hg) | (apply GJ.or; exact rfl; intro hg)))
        have hd2 : (decide (false ≠ false) || decide (true ≠ true) || decide ((c : Int) ≠ (c : Int)) || false) = false := by simp
        rw [hd2]
        repeat (first
          | (show _ ∧ _; exact ⟨rfl, rfl, rfl⟩)
          | refine wkT ?_
          | refine Bs.all ?_
          | (show OpOk _ _ _ _ _ _ _; first | refine opB (fun b => ?_) | refine opA (fun a' c' hc1 hc2 => ?_))
          | (show GJ _ _ _ _ _ _ _; first | refine GJ.t (by decide) ?_ | refine GJ.f (by decide) ?_ | refine GJ.ft (by decide) ?_ | refine GJ.ff (by decide) ?_)
          | (show Br _ _ _; first | refine Br.t (by decide) ?_ | refine Br.f (by decide) ?_)
          | (show GJ _ _ _ _ _ _ _; first | (apply GJ.and; exact rfl; intro hg) | (apply GJ.or; exact rfl; intro hg)))
        refine check_ok ?_
        rw [if_neg hne]
        repeat (first
          | (show _ ∧ _; exact ⟨rfl, rfl, rfl⟩)
          | refine wkT ?_
          | refine Bs.all ?_
          | (show OpOk _ _ _ _ _ _ _; first | refine opB (fun b => ?_) | refine opA (fun a' c' hc1 hc2 => ?_))
          | (show GJ _ _ _ _ _ _ _; first | refine GJ.t (by decide) ?_ | refine GJ.f (by decide) ?_ | refine GJ.ft (by decide) ?_ | refine GJ.ff (by decide) ?_)
          | (show Br _ _ _; first | refine Br.t (by decide) ?_ | refine Br.f (by decide) ?_)
          | (show GJ _ _ _ _ _ _ _; first | (apply GJ.and; exact rfl; intro hg) | (apply GJ.or; exact rfl; intro hg)))
        try rw [hd1]
        refine Wk.outV Sup.auto hk ?_
        first | rfl | simp
    · obtain ⟨k, rfl⟩ : ∃ j, k0 = j + 1 := ⟨k0 - 1, by omega⟩
      have em : (((k + 1 : Nat) : Int) - 1) % 256 = ((k : Nat) : Int) := by omega
      have hdr : (List.range 256).drop k = k :: (List.range 256).drop (k + 1) := by
        rw [List.drop_eq_getElem_cons (by simp; omega)]; simp
      obtain ⟨x, hx⟩ : ∃ x, p.has k = x := ⟨_, rfl⟩
      obtain ⟨y, hy⟩ : ∃ y, q.has k = y := ⟨_, rfl⟩
      have e1 : (p.and q).has k = (x && y) := by rw [SetD.has_and, hx, hy]
      have e2 : (p.or q).has k = (x || y) := by rw [SetD.has_or, hx, hy]
      have e3 : p.not.has k = !x := by rw [SetD.has_not hp0, hx]
      repeat (first
        | (show _ ∧ _; exact ⟨rfl, rfl, rfl⟩)
        | refine wkT ?_
        | refine Bs.all ?_
        | (show OpOk _ _ _ _ _ _ _; first | refine opB (fun b => ?_) | refine opA (fun a' c' hc1 hc2 => ?_))
        | (show GJ _ _ _ _ _ _ _; first | refine GJ.t (by decide) ?_ | refine GJ.f (by decide) ?_ | refine GJ.ft (by decide) ?_ | refine GJ.ff (by decide) ?_)
        | (show Br _ _ _; first | refine Br.t (by decide) ?_ | refine Br.f (by decide) ?_)
        | (show GJ _ _ _ _ _ _ _; first | (apply GJ.and; exact rfl; intro hg) | (apply GJ.or; exact rfl; intro hg)))
      refine SeqOk.pass ?_
      repeat (first
        | (show _ ∧ _; exact ⟨rfl, rfl, rfl⟩)
        | refine wkT ?_
        | refine Bs.all ?_
        | (show OpOk _ _ _ _ _ _ _; first | refine opB (fun b => ?_) | refine opA (fun a' c' hc1 hc2 => ?_))
        | (show GJ _ _ _ _ _ _ _; first | refine GJ.t (by decide) ?_ | refine GJ.f (by decide) ?_ | refine GJ.ft (by decide) ?_ | refine GJ.ff (by decide) ?_)
        | (show Br _ _ _; first | refine Br.t (by decide) ?_ | refine Br.f (by decide) ?_)
        | (show GJ _ _ _ _ _ _ _; first | (apply GJ.and; exact rfl; intro hg) | (apply GJ.or; exact rfl; intro hg)))
      rw [em]
      refine has_ok hp0 (by omega) ?_
      rw [hx]
      repeat (first
        | (show _ ∧ _; exact ⟨rfl, rfl, rfl⟩)
        | refine wkT ?_
        | refine Bs.all ?_
        | (show OpOk _ _ _ _ _ _ _; first | refine opB (fun b => ?_) | refine opA (fun a' c' hc1 hc2 => ?_))
        | (show GJ _ _ _ _ _ _ _; first | refine GJ.t (by decide) ?_ | refine GJ.f (by decide) ?_ | refine GJ.ft (by decide) ?_ | refine GJ.ff (by decide) ?_)
        | (show Br _ _ _; first | refine Br.t (by decide) ?_ | refine Br.f (by decide) ?_)
        | (show GJ _ _ _ _ _ _ _; first | (apply GJ.and; exact rfl; intro hg) | (apply GJ.or; exact rfl; intro hg)))
      try rw [em]
      refine has_ok hq0 (by omega) ?_
      rw [hy]
      repeat (first
        | (show _ ∧ _; exact ⟨rfl, rfl, rfl⟩)
        | refine wkT ?_
        | refine Bs.all ?_
        | (show OpOk _ _ _ _ _ _ _; first | refine opB (fun b => ?_) | refine opA (fun a' c' hc1 hc2 => ?_))
        | (show GJ _ _ _ _ _ _ _; first | refine GJ.t (by decide) ?_ | refine GJ.f (by decide) ?_ | refine GJ.ft (by decide) ?_ | refine GJ.ff (by decide) ?_)
        | (show Br _ _ _; first | refine Br.t (by decide) ?_ | refine Br.f (by decide) ?_)
        | (show GJ _ _ _ _ _ _ _; first | (apply GJ.and; exact rfl; intro hg) | (apply GJ.or; exact rfl; intro hg)))
      try rw [em]
      refine has_ok hp0.and (by omega) ?_
      rw [e1]
      cases x <;> cases y
      all_goals
        try simp only [Bool.and_true, Bool.and_false, Bool.or_true, Bool.or_false, Bool.not_true, Bool.not_false] at e2 e3 ⊢
        repeat (first
          | (show _ ∧ _; exact ⟨rfl, rfl, rfl⟩)
          | refine wkT ?_
          | refine Bs.all ?_
          | (show OpOk _ _ _ _ _ _ _; first | refine opB (fun b => ?_) | refine opA (fun a' c' hc1 hc2 => ?_))
          | (show GJ _ _ _ _ _ _ _; first | refine GJ.t (by decide) ?_ | refine GJ.f (by decide) ?_ | refine GJ.ft (by decide) ?_ | refine GJ.ff (by decide) ?_)
          | (show Br _ _ _; first | refine Br.t (by decide) ?_ | refine Br.f (by decide) ?_)
          | (show GJ _ _ _ _ _ _ _; first | (apply GJ.and; exact rfl; intro hg) | (apply GJ.or; exact rfl; intro hg)))
        try rw [em]
        refine has_ok (hp0.or hq0) (by omega) ?_
        rw [e2]
        repeat (first
          | (show _ ∧ _; exact ⟨rfl, rfl, rfl⟩)
          | refine wkT ?_
          | refine Bs.all ?_
          | (show OpOk _ _ _ _ _ _ _; first | refine opB (fun b => ?_) | refine opA (fun a' c' hc1 hc2 => ?_))
          | (show GJ _ _ _ _ _ _ _; first | refine GJ.t (by decide) ?_ | refine GJ.f (by decide) ?_ | refine GJ.ft (by decide) ?_ | refine GJ.ff (by decide) ?_)
          | (show Br _ _ _; first | refine Br.t (by decide) ?_ | refine Br.f (by decide) ?_)
          | (show GJ _ _ _ _ _ _ _; first | (apply GJ.and; exact rfl; intro hg) | (apply GJ.or; exact rfl; intro hg)))
        try rw [em]
        refine has_ok (SetIn.not p) (by omega) ?_
        rw [e3]
        repeat (first
          | (show _ ∧ _; exact ⟨rfl, rfl, rfl⟩)
          | refine wkT ?_
          | refine Bs.all ?_
          | (show OpOk _ _ _ _ _ _ _; first | refine opB (fun b => ?_) | refine opA (fun a' c' hc1 hc2 => ?_))
          | (show GJ _ _ _ _ _ _ _; first | refine GJ.t (by decide) ?_ | refine GJ.f (by decide) ?_ | refine GJ.ft (by decide) ?_ | refine GJ.ff (by decide) ?_)
          | (show Br _ _ _; first | refine Br.t (by decide) ?_ | refine Br.f (by decide) ?_)
          | (show GJ _ _ _ _ _ _ _; first | (apply GJ.and; exact rfl; intro hg) | (apply GJ.or; exact rfl; intro hg)))
        first
          | have hx2 : p.has k = false := hx
            refine Wk.id ⟨(k, n, f), ⟨rfl, ?_⟩, ?_, Sub.auto, Sup.auto⟩
            all_goals try dsimp only
            · exact ⟨by omega, by rw [hdr, List.countP_cons, hx, i2]; rfl, by omega, by rw [i4, hdr, List.find?_cons, hx]⟩
            · omega
          | have hx2 : p.has k = true := hx
            refine Wk.id ⟨(k, n + 1, ((k + 1 : Nat) : Int) - 1), ⟨rfl, ?_⟩, ?_, Sub.auto, Sup.auto⟩
            all_goals try dsimp only
            · exact ⟨by omega, by rw [hdr, List.countP_cons, hx, i2]; rfl, by omega, by rw [hdr, List.find?_cons, hx]; show ((k + 1 : Nat) : Int) - 1 = (k : Int); omega⟩
            · omega
end
end Go.Proofs.YtocliedpgdfkoaaDoor
