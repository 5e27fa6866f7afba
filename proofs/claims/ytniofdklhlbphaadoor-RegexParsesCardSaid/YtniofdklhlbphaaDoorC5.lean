/- Contracts of class: Len, First. -/
import Derived.Test.YtniofdklhlbphaaDoorC4
namespace Go.Proofs.YtniofdklhlbphaaDoor
open Go Go.E
set_option linter.unusedVariables false
set_option maxRecDepth 10000
def SetD.len (s : SetD) : Nat := pc 64 s.a + pc 64 s.b + pc 64 s.c + pc 64 s.d
def SetD.lenTo (s : SetD) : Nat → Nat
  | 0 => 0
  | k + 1 => s.lenTo k + pc 64 (s.w k)
theorem SetD.lenTo_four (s : SetD) : s.lenTo 4 = s.len := by simp [SetD.lenTo, SetD.len, SetD.w]
section
variable {ro : Ro} {own r : Chs} {K : Value → Ro → Chs → Prop} {g : Chunk → Chs}
theorem nandN (x y : Nat) : nand2 (x : Int) (y : Int) = ((x &&& y : Nat) : Int) := rfl
set_option maxHeartbeats 1000000 in
theorem count_ok {x : Nat} (h : x < 18446744073709551616) (hk : K (.int .i64 ((pc 64 x : Nat) : Int)) ro own) : CallOk Tryd.prog 129 #[.int .u64 (x : Int)] ro own K := by
  obtain ⟨a1, a2, a3, h1, h2, h3, h4, h5, h6, h7, h8⟩ := ones_spec h
  have l1 : x / 2 &&& 6148914691236517205 ≤ 6148914691236517205 := Nat.and_le_right
  have l2 : x &&& 6148914691236517205 ≤ 6148914691236517205 := Nat.and_le_right
  have l3 : a1 / 4 &&& 3689348814741910323 ≤ 3689348814741910323 := Nat.and_le_right
  have l4 : a1 &&& 3689348814741910323 ≤ 3689348814741910323 := Nat.and_le_right
  have s1 : (x : Int) / 2 ^ Int.toNat 1 = ((x / 2 : Nat) : Int) := by show (x : Int) / 2 = _; omega
  have s2 : (a1 : Int) / 2 ^ Int.toNat 2 = ((a1 / 4 : Nat) : Int) := by show (a1 : Int) / 4 = _; omega
  have s3 : (a2 : Int) / 2 ^ Int.toNat 4 = ((a2 / 16 : Nat) : Int) := by show (a2 : Int) / 16 = _; omega
  have s4 : (a3 : Int) / 2 ^ Int.toNat 8 = ((a3 / 256 : Nat) : Int) := by show (a3 : Int) / 256 = _; omega
  have q1 : nand2 ((x / 2 : Nat) : Int) 6148914691236517205 = ((x / 2 &&& 6148914691236517205 : Nat) : Int) := rfl
  have q2 : nand2 (x : Int) 6148914691236517205 = ((x &&& 6148914691236517205 : Nat) : Int) := rfl
  have r1 : (((x / 2 &&& 6148914691236517205 : Nat) : Int) + ((x &&& 6148914691236517205 : Nat) : Int)) % 18446744073709551616 = (a1 : Int) := by omega
  have q3 : nand2 ((a1 / 4 : Nat) : Int) 3689348814741910323 = ((a1 / 4 &&& 3689348814741910323 : Nat) : Int) := rfl
  have q4 : nand2 (a1 : Int) 3689348814741910323 = ((a1 &&& 3689348814741910323 : Nat) : Int) := rfl
  have r2 : (((a1 / 4 &&& 3689348814741910323 : Nat) : Int) + ((a1 &&& 3689348814741910323 : Nat) : Int)) % 18446744073709551616 = (a2 : Int) := by omega
  have r3 : (((a2 / 16 : Nat) : Int) + (a2 : Int)) % 18446744073709551616 = ((a2 / 16 + a2 : Nat) : Int) := by omega
  have q5 : nand2 ((a2 / 16 + a2 : Nat) : Int) 1085102592571150095 = (((a2 / 16 + a2) &&& 1085102592571150095 : Nat) : Int) := rfl
  rw [h5] at q5
  have r4 : ((a3 : Int) + ((a3 / 256 : Nat) : Int)) % 18446744073709551616 = ((a3 + a3 / 256 : Nat) : Int) := by omega
  have s5 : ((a3 + a3 / 256 : Nat) : Int) / 2 ^ Int.toNat 16 = (((a3 + a3 / 256) / 65536 : Nat) : Int) := by show ((a3 + a3 / 256 : Nat) : Int) / 65536 = _; omega
  have r5 : (((a3 + a3 / 256 : Nat) : Int) + (((a3 + a3 / 256) / 65536 : Nat) : Int)) % 18446744073709551616 = ((a3 + a3 / 256 + (a3 + a3 / 256) / 65536 : Nat) : Int) := by omega
  have s6 : ((a3 + a3 / 256 + (a3 + a3 / 256) / 65536 : Nat) : Int) / 2 ^ Int.toNat 32 = (((a3 + a3 / 256 + (a3 + a3 / 256) / 65536) / 4294967296 : Nat) : Int) := by
    show ((a3 + a3 / 256 + (a3 + a3 / 256) / 65536 : Nat) : Int) / 4294967296 = _; omega
  have r6 : (((a3 + a3 / 256 + (a3 + a3 / 256) / 65536 : Nat) : Int) + (((a3 + a3 / 256 + (a3 + a3 / 256) / 65536) / 4294967296 : Nat) : Int)) % 18446744073709551616 = ((a3 + a3 / 256 + (a3 + a3 / 256) / 65536 + (a3 + a3 / 256 + (a3 + a3 / 256) / 65536) / 4294967296 : Nat) : Int) := by omega
  have hb : a3 + a3 / 256 + (a3 + a3 / 256) / 65536 + (a3 + a3 / 256 + (a3 + a3 / 256) / 65536) / 4294967296 < 9223372036854775808 := by omega
  clear h1 h2 h3 h4 h5 h6
  have r7 := wrap_i64 (n := ((a3 + a3 / 256 + (a3 + a3 / 256) / 65536 + (a3 + a3 / 256 + (a3 + a3 / 256) / 65536) / 4294967296 : Nat) : Int)) (by omega)
  have q6 : nand2 ((a3 + a3 / 256 + (a3 + a3 / 256) / 65536 + (a3 + a3 / 256 + (a3 + a3 / 256) / 65536) / 4294967296 : Nat) : Int) 127 = ((pc 64 x : Nat) : Int) := by
    rw [← h7]; exact congrArg Int.ofNat (Nat.and_two_pow_sub_one_eq_mod _ 7)
  refine CallOk.intro (args := [_]) (rs := [_]) T_ok Tryd.func129 Tryd.call129 rfl rfl (by kernel_rfl) rfl rfl ?_
  repeat (first
    | rw [s1] | rw [q1] | rw [q2] | rw [r1] | rw [s2] | rw [q3] | rw [q4] | rw [r2] | rw [s3] | rw [r3] | rw [q5] | rw [s4] | rw [r4] | rw [s5] | rw [r5] | rw [s6] | rw [r6] | rw [r7] | rw [q6]
    | refine Stop.mk ?_
    | (refine And.intro (by omega) ?_)
    | (show OpOk _ _ _ _ _ _ _; refine OpOk.andN rfl rfl ⟨⟨by omega, by omega⟩, by decide⟩ ?_))
  repeat (first
    | (show _ ∧ _; exact ⟨rfl, rfl, rfl⟩)
    | refine wkG ?_
    | (show OpOk _ _ _ _ _ _ _; first | refine opB (fun b => ?_) | refine opA (fun a' c' hc1 hc2 => ?_))
    | (show GJ _ _ _ _ _ _ _; first | (apply GJ.and; exact rfl; intro hg) | (apply GJ.or; exact rfl; intro hg) | refine GJ.t omAuto ?_ | refine GJ.f omAuto ?_ | refine GJ.ft omAuto ?_ | refine GJ.ff omAuto ?_))
  exact Wk.outS Sup.auto (.refl _) hk
theorem len_ok {s : SetD} (hs : SetIn s) (hk : K (.int .i64 ((s.len : Nat) : Int)) ro own) : CallOk Tryd.prog 109 #[.agg (setV s).toArray] ro own K := by
  refine CallOk.intro (args := [_]) (rs := [_]) T_ok Tryd.func109 Tryd.call109 rfl rfl (by kernel_rfl) rfl rfl ?_
  repeat (first
    | (show _ ∧ _; exact ⟨rfl, rfl, rfl⟩)
    | refine wkG ?_
    | (show OpOk _ _ _ _ _ _ _; first | refine opB (fun b => ?_) | refine opA (fun a' c' hc1 hc2 => ?_))
    | (show GJ _ _ _ _ _ _ _; first | (apply GJ.and; exact rfl; intro hg) | (apply GJ.or; exact rfl; intro hg) | refine GJ.t omAuto ?_ | refine GJ.f omAuto ?_ | refine GJ.ft omAuto ?_ | refine GJ.ff omAuto ?_))
  refine LoopOk.at (ι := Nat) Keep.auto (fun i => [(7, .int .i64 (i : Int)), (3, .int .i64 ((s.lenTo i : Nat) : Int))]) (fun i => .blk b 141 (setV s) :: own) (fun i => i ≤ 4 ∧ s.lenTo i ≤ 64 * i) (fun i => 4 - i) 0 ?_ Sub.auto Sup.auto ?_
  · exact ⟨by omega, by simp [SetD.lenTo]⟩
  rintro i ⟨i1, i2⟩
  dsimp only [List.cons_append, List.nil_append]
  repeat (first
    | (show _ ∧ _; exact ⟨rfl, rfl, rfl⟩)
    | refine wkG ?_
    | (show OpOk _ _ _ _ _ _ _; first | refine opB (fun b => ?_) | refine opA (fun a' c' hc1 hc2 => ?_))
    | (show GJ _ _ _ _ _ _ _; first | (apply GJ.and; exact rfl; intro hg) | (apply GJ.or; exact rfl; intro hg) | refine GJ.t omAuto ?_ | refine GJ.f omAuto ?_ | refine GJ.ft omAuto ?_ | refine GJ.ff omAuto ?_))
  refine Br.cases (fun hg => ?_) (fun hg => ?_)
  · have hw := hs i
    obtain ⟨_, _, _, _, _, _, _, _, _, _, hp⟩ := ones_spec hw
    have hl : s.lenTo (i + 1) = s.lenTo i + pc 64 (s.w i) := rfl
    repeat (first
      | (show _ ∧ _; exact ⟨rfl, rfl, rfl⟩)
      | refine wkG ?_
      | (show OpOk _ _ _ _ _ _ _; first | refine opB (fun b => ?_) | refine opA (fun a' c' hc1 hc2 => ?_))
      | (show GJ _ _ _ _ _ _ _; first | (apply GJ.and; exact rfl; intro hg) | (apply GJ.or; exact rfl; intro hg) | refine GJ.t omAuto ?_ | refine GJ.f omAuto ?_ | refine GJ.ft omAuto ?_ | refine GJ.ff omAuto ?_))
    refine OpOk.index1 (k := i) (e := 38) (n := 4) rfl rfl (by kernel_rfl) Tryd.underlying38 rfl (by kernel_rfl) rfl (by omega) (setV_get (s := s) (by omega)) ?_
    repeat (first
      | (show _ ∧ _; exact ⟨rfl, rfl, rfl⟩)
      | refine wkG ?_
      | (show OpOk _ _ _ _ _ _ _; first | refine opB (fun b => ?_) | refine opA (fun a' c' hc1 hc2 => ?_))
      | (show GJ _ _ _ _ _ _ _; first | (apply GJ.and; exact rfl; intro hg) | (apply GJ.or; exact rfl; intro hg) | refine GJ.t omAuto ?_ | refine GJ.f omAuto ?_ | refine GJ.ft omAuto ?_ | refine GJ.ff omAuto ?_))
    refine count_ok hw ?_
    repeat (first
      | (show _ ∧ _; exact ⟨rfl, rfl, rfl⟩)
      | refine wkG ?_
      | (show OpOk _ _ _ _ _ _ _; first | refine opB (fun b => ?_) | refine opA (fun a' c' hc1 hc2 => ?_))
      | (show GJ _ _ _ _ _ _ _; first | (apply GJ.and; exact rfl; intro hg) | (apply GJ.or; exact rfl; intro hg) | refine GJ.t omAuto ?_ | refine GJ.f omAuto ?_ | refine GJ.ft omAuto ?_ | refine GJ.ff omAuto ?_))
    refine Wk.id ⟨i + 1, ⟨rfl, ?_⟩, ?_, Sub.auto, Sup.auto⟩
    all_goals try dsimp only
    · exact ⟨by omega, by omega⟩
    · omega
  · obtain rfl : i = 4 := by omega
    rw [SetD.lenTo_four]
    repeat (first
      | (show _ ∧ _; exact ⟨rfl, rfl, rfl⟩)
      | refine wkG ?_
      | (show OpOk _ _ _ _ _ _ _; first | refine opB (fun b => ?_) | refine opA (fun a' c' hc1 hc2 => ?_))
      | (show GJ _ _ _ _ _ _ _; first | (apply GJ.and; exact rfl; intro hg) | (apply GJ.or; exact rfl; intro hg) | refine GJ.t omAuto ?_ | refine GJ.f omAuto ?_ | refine GJ.ft omAuto ?_ | refine GJ.ff omAuto ?_))
    exact Wk.outS Sup.auto (.refl _) hk
theorem first_ok {s : SetD} (ht : TabOk ro) (hs : SetIn s) (h1 : s = ⟨0, 0, 0, 0⟩ → K (.tuple #[.int .u8 0, .bool false]) ro own) (h2 : ∀ c : Nat, c < 256 → s.has c = true → (∀ j, j < c → s.has j = false) → K (.tuple #[.int .u8 (c : Int), .bool true]) ro own) : CallOk Tryd.prog 108 #[.agg (setV s).toArray] ro own K := by
  refine CallOk.intro (args := [_]) (rs := [_, _]) T_ok Tryd.func108 Tryd.call108 rfl rfl (by kernel_rfl) rfl rfl ?_
  repeat (first
    | (show _ ∧ _; exact ⟨rfl, rfl, rfl⟩)
    | refine wkG ?_
    | (show OpOk _ _ _ _ _ _ _; first | refine opB (fun b => ?_) | refine opA (fun a' c' hc1 hc2 => ?_))
    | (show GJ _ _ _ _ _ _ _; first | (apply GJ.and; exact rfl; intro hg) | (apply GJ.or; exact rfl; intro hg) | refine GJ.t omAuto ?_ | refine GJ.f omAuto ?_ | refine GJ.ft omAuto ?_ | refine GJ.ff omAuto ?_))
  refine LoopOk.at (ι := Nat) Keep.auto (fun i => [(7, .int .i64 (i : Int))]) (fun i => .blk b 141 (setV s) :: own) (fun i => i ≤ 4 ∧ ∀ k, k < i → s.w k = 0) (fun i => 4 - i) 0 ?_ Sub.auto Sup.auto ?_
  · exact ⟨by omega, fun k hk => absurd hk (by omega)⟩
  rintro i ⟨i1, i2⟩
  dsimp only [List.cons_append, List.nil_append]
  repeat (first
    | (show _ ∧ _; exact ⟨rfl, rfl, rfl⟩)
    | refine wkG ?_
    | (show OpOk _ _ _ _ _ _ _; first | refine opB (fun b => ?_) | refine opA (fun a' c' hc1 hc2 => ?_))
    | (show GJ _ _ _ _ _ _ _; first | (apply GJ.and; exact rfl; intro hg) | (apply GJ.or; exact rfl; intro hg) | refine GJ.t omAuto ?_ | refine GJ.f omAuto ?_ | refine GJ.ft omAuto ?_ | refine GJ.ff omAuto ?_))
  refine Br.cases (fun hg => ?_) (fun hg => ?_)
  · have hw := hs i
    repeat (first
      | (show _ ∧ _; exact ⟨rfl, rfl, rfl⟩)
      | refine wkG ?_
      | (show OpOk _ _ _ _ _ _ _; first | refine opB (fun b => ?_) | refine opA (fun a' c' hc1 hc2 => ?_))
      | (show GJ _ _ _ _ _ _ _; first | (apply GJ.and; exact rfl; intro hg) | (apply GJ.or; exact rfl; intro hg) | refine GJ.t omAuto ?_ | refine GJ.f omAuto ?_ | refine GJ.ft omAuto ?_ | refine GJ.ff omAuto ?_))
    refine OpOk.index1 (k := i) (e := 38) (n := 4) rfl rfl (by kernel_rfl) Tryd.underlying38 rfl (by kernel_rfl) rfl (by omega) (setV_get (s := s) (by omega)) ?_
    repeat (first
      | (show _ ∧ _; exact ⟨rfl, rfl, rfl⟩)
      | refine wkG ?_
      | (show OpOk _ _ _ _ _ _ _; first | refine opB (fun b => ?_) | refine opA (fun a' c' hc1 hc2 => ?_))
      | (show GJ _ _ _ _ _ _ _; first | (apply GJ.and; exact rfl; intro hg) | (apply GJ.or; exact rfl; intro hg) | refine GJ.t omAuto ?_ | refine GJ.f omAuto ?_ | refine GJ.ft omAuto ?_ | refine GJ.ff omAuto ?_))
    refine Br.cases (fun hne => ?_) (fun he => ?_)
    · repeat (first
        | (show _ ∧ _; exact ⟨rfl, rfl, rfl⟩)
        | refine wkG ?_
        | (show OpOk _ _ _ _ _ _ _; first | refine opB (fun b => ?_) | refine opA (fun a' c' hc1 hc2 => ?_))
        | (show GJ _ _ _ _ _ _ _; first | (apply GJ.and; exact rfl; intro hg) | (apply GJ.or; exact rfl; intro hg) | refine GJ.t omAuto ?_ | refine GJ.f omAuto ?_ | refine GJ.ft omAuto ?_ | refine GJ.ff omAuto ?_))
      refine tz_ok ht (by omega) hw (fun k hlow => ?_)
      obtain ⟨l1, l2, l3⟩ := hlow
      have hc := h2 (64 * i + k) (by omega) (by unfold SetD.has; rw [show (64 * i + k) / 64 = i by omega, show (64 * i + k) % 64 = k by omega]; exact l2) (fun j hj => by
        unfold SetD.has
        by_cases hji : j / 64 < i
        · rw [i2 _ hji]; simp
        · rw [show j / 64 = i by omega]; exact l3 _ (by omega))
      repeat (first
        | (show _ ∧ _; exact ⟨rfl, rfl, rfl⟩)
        | refine wkG ?_
        | (show OpOk _ _ _ _ _ _ _; first | refine opB (fun b => ?_) | refine opA (fun a' c' hc1 hc2 => ?_))
        | (show GJ _ _ _ _ _ _ _; first | (apply GJ.and; exact rfl; intro hg) | (apply GJ.or; exact rfl; intro hg) | refine GJ.t omAuto ?_ | refine GJ.f omAuto ?_ | refine GJ.ft omAuto ?_ | refine GJ.ff omAuto ?_))
      have e : (64 * (i : Int) + (k : Int)) % 256 = ((64 * i + k : Nat) : Int) := by omega
      rw [e]
      exact Wk.outS Sup.auto (.refl _) hc
    · repeat (first
        | (show _ ∧ _; exact ⟨rfl, rfl, rfl⟩)
        | refine wkG ?_
        | (show OpOk _ _ _ _ _ _ _; first | refine opB (fun b => ?_) | refine opA (fun a' c' hc1 hc2 => ?_))
        | (show GJ _ _ _ _ _ _ _; first | (apply GJ.and; exact rfl; intro hg) | (apply GJ.or; exact rfl; intro hg) | refine GJ.t omAuto ?_ | refine GJ.f omAuto ?_ | refine GJ.ft omAuto ?_ | refine GJ.ff omAuto ?_))
      refine Wk.id ⟨i + 1, ⟨rfl, ?_⟩, ?_, Sub.auto, Sup.auto⟩
      all_goals try dsimp only
      · refine ⟨by omega, fun k hk => ?_⟩
        by_cases hki : k = i
        · subst hki; omega
        · exact i2 k (by omega)
      · omega
  · obtain rfl : i = 4 := by omega
    repeat (first
      | (show _ ∧ _; exact ⟨rfl, rfl, rfl⟩)
      | refine wkG ?_
      | (show OpOk _ _ _ _ _ _ _; first | refine opB (fun b => ?_) | refine opA (fun a' c' hc1 hc2 => ?_))
      | (show GJ _ _ _ _ _ _ _; first | (apply GJ.and; exact rfl; intro hg) | (apply GJ.or; exact rfl; intro hg) | refine GJ.t omAuto ?_ | refine GJ.f omAuto ?_ | refine GJ.ft omAuto ?_ | refine GJ.ff omAuto ?_))
    refine Wk.outS Sup.auto (.refl _) (h1 ?_)
    exact SetD.ext4 (fun k hk => by rw [i2 k hk]; unfold SetD.w; simp)
end
end Go.Proofs.YtniofdklhlbphaaDoor
