/- Contracts of class: Len, First. -/
import Derived.Test.YtkpdnpcmeadggaaDoorC4
namespace Go.Proofs.YtkpdnpcmeadggaaDoor
open Go Go.E
set_option linter.unusedVariables false
set_option maxRecDepth 10000
def SetD.len (s : SetD) : Nat := pc 64 s.a + pc 64 s.b + pc 64 s.c + pc 64 s.d
def SetD.lenTo (s : SetD) : Nat → Nat
  | 0 => 0
  | k + 1 => s.lenTo k + pc 64 (s.w k)
theorem SetD.lenTo_four (s : SetD) : s.lenTo 4 = s.len := by simp [SetD.lenTo, SetD.len, SetD.w]
section
variable {ro : Ro} {own r : Chs} {K : Value → Ro → Chs → Prop} {g : Chunk → Chs}
theorem nandN (x y : Nat) : nand2 (x : Int) (y : Int) = ((x &&& y : Nat) : Int) := rfl
theorem first_ok {s : SetD} (ht : TabOk ro) (hs : SetIn s) (h1 : s = ⟨0, 0, 0, 0⟩ → K (.tuple #[.int .u8 0, .bool false]) ro own) (h2 : ∀ c : Nat, c < 256 → s.has c = true → (∀ j, j < c → s.has j = false) → K (.tuple #[.int .u8 (c : Int), .bool true]) ro own) : CallOk Tryd.prog 37 #[.agg (setV s).toArray] ro own K := by
  refine CallOk.intro (args := [_]) (rs := [_, _]) T_ok Tryd.func37 Tryd.call37 rfl rfl (by kernel_rfl) rfl rfl ?_
  repeat (first
    | (show _ ∧ _; exact ⟨rfl, rfl, rfl⟩)
    | refine wkG ?_
    | (show OpOk _ _ _ _ _ _ _; first | refine opB (fun b => ?_) | refine opA (fun a' c' hc1 hc2 => ?_))
    | (show GJ _ _ _ _ _ _ _; first | (apply GJ.and; exact rfl; intro hg) | (apply GJ.or; exact rfl; intro hg) | refine GJ.t omAuto ?_ | refine GJ.f omAuto ?_ | refine GJ.ft omAuto ?_ | refine GJ.ff omAuto ?_))
  refine LoopOk.at (ι := Nat) Keep.auto (fun i => [(7, .int .i64 (i : Int))]) (fun i => .blk b 43 (setV s) :: own) (fun i => i ≤ 4 ∧ ∀ k, k < i → s.w k = 0) (fun i => 4 - i) 0 ?_ Sub.auto Sup.auto ?_
  · exact ⟨by omega, fun k hk => absurd hk (by omega)⟩
  rintro i ⟨i1, i2⟩
  dsimp only [List.cons_append, List.nil_append]
  repeat (first
    | (show _ ∧ _; exact ⟨rfl, rfl, rfl⟩)
    | refine wkG ?_
    | (show OpOk _ _ _ _ _ _ _; first | refine opB (fun b => ?_) | refine opA (fun a' c' hc1 hc2 => ?_))
    | (show GJ _ _ _ _ _ _ _; first | (apply GJ.and; exact rfl; intro hg) | (apply GJ.or; exact rfl; intro hg) | refine GJ.t omAuto ?_ | refine GJ.f omAuto ?_ | refine GJ.ft omAuto ?_ | refine GJ.ff omAuto ?_))
  refine Br.cases (fun hg => ?_) (fun hg => ?_)
  · have hw := hs i
    repeat (first
      | (show _ ∧ _; exact ⟨rfl, rfl, rfl⟩)
      | refine wkG ?_
      | (show OpOk _ _ _ _ _ _ _; first | refine opB (fun b => ?_) | refine opA (fun a' c' hc1 hc2 => ?_))
      | (show GJ _ _ _ _ _ _ _; first | (apply GJ.and; exact rfl; intro hg) | (apply GJ.or; exact rfl; intro hg) | refine GJ.t omAuto ?_ | refine GJ.f omAuto ?_ | refine GJ.ft omAuto ?_ | refine GJ.ff omAuto ?_))
    refine OpOk.index1 (k := i) (e := 22) (n := 4) rfl rfl (by kernel_rfl) Tryd.underlying22 rfl (by kernel_rfl) rfl (by omega) (setV_get (s := s) (by omega)) ?_
    repeat (first
      | (show _ ∧ _; exact ⟨rfl, rfl, rfl⟩)
      | refine wkG ?_
      | (show OpOk _ _ _ _ _ _ _; first | refine opB (fun b => ?_) | refine opA (fun a' c' hc1 hc2 => ?_))
      | (show GJ _ _ _ _ _ _ _; first | (apply GJ.and; exact rfl; intro hg) | (apply GJ.or; exact rfl; intro hg) | refine GJ.t omAuto ?_ | refine GJ.f omAuto ?_ | refine GJ.ft omAuto ?_ | refine GJ.ff omAuto ?_))
    refine Br.cases (fun hne => ?_) (fun he => ?_)
    · repeat (first
        | (show _ ∧ _; exact ⟨rfl, rfl, rfl⟩)
        | refine wkG ?_
        | (show OpOk _ _ _ _ _ _ _; first | refine opB (fun b => ?_) | refine opA (fun a' c' hc1 hc2 => ?_))
        | (show GJ _ _ _ _ _ _ _; first | (apply GJ.and; exact rfl; intro hg) | (apply GJ.or; exact rfl; intro hg) | refine GJ.t omAuto ?_ | refine GJ.f omAuto ?_ | refine GJ.ft omAuto ?_ | refine GJ.ff omAuto ?_))
      refine tz_ok ht (by omega) hw (fun k hlow => ?_)
      obtain ⟨l1, l2, l3⟩ := hlow
      have hc := h2 (64 * i + k) (by omega) (by unfold SetD.has; rw [show (64 * i + k) / 64 = i by omega, show (64 * i + k) % 64 = k by omega]; exact l2) (fun j hj => by
        unfold SetD.has
        by_cases hji : j / 64 < i
        · rw [i2 _ hji]; simp
        · rw [show j / 64 = i by omega]; exact l3 _ (by omega))
      repeat (first
        | (show _ ∧ _; exact ⟨rfl, rfl, rfl⟩)
        | refine wkG ?_
        | (show OpOk _ _ _ _ _ _ _; first | refine opB (fun b => ?_) | refine opA (fun a' c' hc1 hc2 => ?_))
        | (show GJ _ _ _ _ _ _ _; first | (apply GJ.and; exact rfl; intro hg) | (apply GJ.or; exact rfl; intro hg) | refine GJ.t omAuto ?_ | refine GJ.f omAuto ?_ | refine GJ.ft omAuto ?_ | refine GJ.ff omAuto ?_))
      have e : (64 * (i : Int) + (k : Int)) % 256 = ((64 * i + k : Nat) : Int) := by omega
      rw [e]
      exact Wk.outS Sup.auto (.refl _) hc
    · repeat (first
        | (show _ ∧ _; exact ⟨rfl, rfl, rfl⟩)
        | refine wkG ?_
        | (show OpOk _ _ _ _ _ _ _; first | refine opB (fun b => ?_) | refine opA (fun a' c' hc1 hc2 => ?_))
        | (show GJ _ _ _ _ _ _ _; first | (apply GJ.and; exact rfl; intro hg) | (apply GJ.or; exact rfl; intro hg) | refine GJ.t omAuto ?_ | refine GJ.f omAuto ?_ | refine GJ.ft omAuto ?_ | refine GJ.ff omAuto ?_))
      refine Wk.id ⟨i + 1, ⟨rfl, ?_⟩, ?_, Sub.auto, Sup.auto⟩
      all_goals try dsimp only
      · refine ⟨by omega, fun k hk => ?_⟩
        by_cases hki : k = i
        · subst hki; omega
        · exact i2 k (by omega)
      · omega
  · obtain rfl : i = 4 := by omega
    repeat (first
      | (show _ ∧ _; exact ⟨rfl, rfl, rfl⟩)
      | refine wkG ?_
      | (show OpOk _ _ _ _ _ _ _; first | refine opB (fun b => ?_) | refine opA (fun a' c' hc1 hc2 => ?_))
      | (show GJ _ _ _ _ _ _ _; first | (apply GJ.and; exact rfl; intro hg) | (apply GJ.or; exact rfl; intro hg) | refine GJ.t omAuto ?_ | refine GJ.f omAuto ?_ | refine GJ.ft omAuto ?_ | refine GJ.ff omAuto ?_))
    refine Wk.outS Sup.auto (.refl _) (h1 ?_)
    exact SetD.ext4 (fun k hk => by rw [i2 k hk]; unfold SetD.w; simp)
end
end Go.Proofs.YtkpdnpcmeadggaaDoor
