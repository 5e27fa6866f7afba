/- Contract of the document's checksum. -/
import Derived.Test.YtpjiaafkcojddaaCr7
namespace Go.Proofs.Ytpjiaafkcojddaa
open Go Go.E
set_option linter.unusedVariables false
set_option maxRecDepth 10000
def cellsB (β : Nat → Bool) (n : Nat) : List Value := (List.range n).map fun j => Value.int .i64 ((β j).toNat : Int)
theorem cellsB_len (β : Nat → Bool) (n : Nat) : (cellsB β n).length = n := by simp [cellsB]
theorem cellsB_get {β : Nat → Bool} {n j : Nat} (h : j < n) : (cellsB β n)[j]? = some (.int .i64 ((β j).toNat : Int)) := by simp [cellsB, h]
theorem cellsB_snoc (β : Nat → Bool) (n : Nat) : cellsB β n ++ [.int .i64 ((β n).toNat : Int)] = cellsB β (n + 1) := by simp [cellsB, List.range_succ]
theorem cellsB_set {β γ : Nat → Bool} {n i : Nat} {v : Int} (hi : i < n) (hv : v = ((γ i).toNat : Int)) (h : ∀ j, j ≠ i → γ j = β j) : (cellsB β n).set i (.int .i64 v) = cellsB γ n := by
  subst hv
  apply List.ext_getElem
  · simp [cellsB]
  · intro j h1 h2
    simp only [cellsB, List.getElem_set, List.getElem_map, List.getElem_range]
    by_cases e : i = j
    · subst e; simp
    · rw [if_neg e, h j (fun h => e h.symm)]
theorem cellsB_congr {β γ : Nat → Bool} {n : Nat} (h : ∀ j, j < n → β j = γ j) : cellsB β n = cellsB γ n := by
  apply List.map_congr_left
  intro j hj
  rw [h j (by simpa using hj)]
/-- The inner round: k bits added. -/
def addB (β : Nat → Bool) (i k : Nat) (j : Nat) : Bool := β j ^^ (decide (i < j ∧ j < i + 1 + k) && polyB (j - i - 1))
/-- The first bits turned, k of them. -/
def turnB (m : Nat → Bool) (k : Nat) (j : Nat) : Bool := m j ^^ decide (j < k)
theorem msgB_bit {l : List UInt8} {i k : Nat} (hi : i < l.length) (hk : k < 8) : ((l[i]!).toNat : Int) / 2 ^ (k : Int).toNat % 2 = ((msgB l (8 * i + k)).toNat : Int) := by
  have e1 : l[i]? = some l[i]! := by rw [List.getElem!_eq_getElem?_getD, List.getElem?_eq_getElem hi]; rfl
  simp only [msgB, show (8 * i + k) / 8 = i by omega, show (8 * i + k) % 8 = k by omega, e1, Option.map_some, Option.getD_some, Int.toNat_natCast]
  rw [Nat.testBit_eq_decide_div_mod_eq]
  generalize l[i]!.toNat = c
  have : ((c : Int) / 2 ^ k % 2) = ((c / 2 ^ k % 2 : Nat) : Int) := by simp
  rw [this]
  have := Nat.mod_two_eq_zero_or_one (c / 2 ^ k)
  rcases this with h | h <;> simp [h]
theorem msgB_nought {l : List UInt8} {j : Nat} (h : 8 * l.length ≤ j) : (0 : Int) = ((msgB l j).toNat : Int) := by
  simp [msgB, List.getElem?_eq_none (show l.length ≤ j / 8 by omega)]
theorem polyL_at {k : Nat} (h : k < 32) : (polyL.map fun x : Nat => Value.int .i64 (x : Int))[k]? = some (.int .i64 ((polyB k).toNat : Int)) := by simp [polyL_get h]
theorem numB_lt' (β : Nat → Bool) : ∀ k, numB β k < 2 ^ k
  | 0 => by simp [numB]
  | k + 1 => by
    have h1 := numB_lt' β k
    have h2 := Bool.toNat_lt (β (31 - k))
    rw [numB, Nat.pow_succ]
    omega
theorem addB_step (β : Nat → Bool) (i k : Nat) : (((addB β i k (i + 1 + k)).toNat : Int) + ((polyB k).toNat : Int)) % 2 = ((addB β i (k + 1) (i + 1 + k)).toNat : Int) := by
  unfold addB
  rw [show decide (i < i + 1 + k ∧ i + 1 + k < i + 1 + k) = false by simp, show decide (i < i + 1 + k ∧ i + 1 + k < i + 1 + (k + 1)) = true by simp; omega, show i + 1 + k - i - 1 = k by omega]
  cases β (i + 1 + k) <;> cases polyB k <;> rfl
theorem addB_other {β : Nat → Bool} {i k j : Nat} (h : j ≠ i + 1 + k) : addB β i (k + 1) j = addB β i k j := by
  unfold addB
  rw [show decide (i < j ∧ j < i + 1 + (k + 1)) = decide (i < j ∧ j < i + 1 + k) from decide_eq_decide.2 (by omega)]
theorem addB_all {m : Nat → Bool} {i : Nat} (h : divB m i i = true) (j : Nat) : addB (divB m i) i 32 j = divB m (i + 1) j := by
  unfold addB
  rw [divB, h, show decide (i < j ∧ j < i + 1 + 32) = decide (i < j ∧ j ≤ i + 32) from decide_eq_decide.2 (by omega)]
  simp
theorem divB_skip {m : Nat → Bool} {i : Nat} (h : divB m i i = false) (j : Nat) : divB m i j = divB m (i + 1) j := by
  rw [divB, h]; simp
section
variable {ro : Ro} {own r : Chs} {K : Value → Ro → Chs → Prop} {g : Chunk → Chs}
theorem sum_ok {n c : Nat} {a : Option Addr} {l : List UInt8} (hr : Rds ro own a n c 1 (l.map u8)) (hn : n ≤ 1000000) (hk : K (.int .u32 (crcOf l : Nat)) ro own) : CallOk Try.prog 14 #[.slice a n c] ro own K := by
  have hl := hr.n1
  simp at hl
  refine CallOk.intro (args := [_]) (rs := [_]) T_ok Try.func14 Try.call14 rfl rfl (by kernel_rfl) rfl rfl ?_
  repeat (first
    | (show _ ∧ _; exact ⟨rfl, rfl, rfl⟩)
    | refine wkG ?_
    | (show OpOk _ _ _ _ _ _ _; first | refine opB (fun b => ?_) | refine opA (fun a' c' hc1 hc2 => ?_))
    | (show GJ _ _ _ _ _ _ _; first | (apply GJ.and; exact rfl; intro hg) | (apply GJ.or; exact rfl; intro hg) | refine GJ.t omAuto ?_ | refine GJ.f omAuto ?_ | refine GJ.ft omAuto ?_ | refine GJ.ff omAuto ?_))
  refine LoopOk.at (ι := Nat × List Value × Option Addr × Nat × Nat) Keep.auto (fun (i, cs, a1, n1, c1) => [(4, .int .i64 (i : Int)), (3, .slice a1 n1 c1)]) (fun (i, cs, a1, n1, c1) => .sl a1 n1 c1 3 1 cs :: own) (fun (i, cs, a1, n1, c1) => i ≤ n ∧ cs = cellsB (msgB l) (8 * i) ∧ n1 = 8 * i ∧ n1 ≤ c1 ∧ c1 ≤ maxLen) (fun (i, cs, a1, n1, c1) => n - i) (0, _, none, 0, 0) ?_ Sub.auto Sup.auto ?_
  · exact ⟨by omega, rfl, by omega, by omega, by omega⟩
  rintro ⟨i, cs, a1, n1, c1⟩ ⟨i1, rfl, rfl, i3, i4⟩
  dsimp only [List.cons_append, List.nil_append]
  repeat (first
    | (show _ ∧ _; exact ⟨rfl, rfl, rfl⟩)
    | refine wkG ?_
    | (show OpOk _ _ _ _ _ _ _; first | refine opB (fun b => ?_) | refine opA (fun a' c' hc1 hc2 => ?_))
    | (show GJ _ _ _ _ _ _ _; first | (apply GJ.and; exact rfl; intro hg) | (apply GJ.or; exact rfl; intro hg) | refine GJ.t omAuto ?_ | refine GJ.f omAuto ?_ | refine GJ.ft omAuto ?_ | refine GJ.ff omAuto ?_))
  refine Br.cases (fun hc => ?_) (fun hc => ?_)
  · repeat (first
      | (show _ ∧ _; exact ⟨rfl, rfl, rfl⟩)
      | refine wkG ?_
      | (show OpOk _ _ _ _ _ _ _; first | refine opB (fun b => ?_) | refine opA (fun a' c' hc1 hc2 => ?_))
      | (show GJ _ _ _ _ _ _ _; first | (apply GJ.and; exact rfl; intro hg) | (apply GJ.or; exact rfl; intro hg) | refine GJ.t omAuto ?_ | refine GJ.f omAuto ?_ | refine GJ.ft omAuto ?_ | refine GJ.ff omAuto ?_))
    refine LoopOk.at (ι := Nat × List Value × Option Addr × Nat × Nat) Keep.auto (fun (k, cs, a2, n2, c2) => [(5, .int .i64 (k : Int)), (3, .slice a2 n2 c2)]) (fun (k, cs, a2, n2, c2) => .sl a2 n2 c2 3 1 cs :: own) (fun (k, cs, a2, n2, c2) => k ≤ 8 ∧ cs = cellsB (msgB l) (8 * i + k) ∧ n2 = 8 * i + k ∧ n2 ≤ c2 ∧ c2 ≤ maxLen) (fun (k, cs, a2, n2, c2) => 8 - k) (0, _, _, _, _) ?_ Sub.auto Sup.auto ?_
    · exact ⟨by omega, rfl, rfl, by omega, by omega⟩
    rintro ⟨k, cs, a2, n2, c2⟩ ⟨k1, rfl, rfl, k3, k4⟩
    dsimp only [List.cons_append, List.nil_append]
    repeat (first
      | (show _ ∧ _; exact ⟨rfl, rfl, rfl⟩)
      | refine wkG ?_
      | (show OpOk _ _ _ _ _ _ _; first | refine opB (fun b => ?_) | refine opA (fun a' c' hc1 hc2 => ?_))
      | (show GJ _ _ _ _ _ _ _; first | (apply GJ.and; exact rfl; intro hg) | (apply GJ.or; exact rfl; intro hg) | refine GJ.t omAuto ?_ | refine GJ.f omAuto ?_ | refine GJ.ft omAuto ?_ | refine GJ.ff omAuto ?_))
    refine Br.cases (fun hd => ?_) (fun hd => ?_)
    · repeat (first
        | (show _ ∧ _; exact ⟨rfl, rfl, rfl⟩)
        | refine wkG ?_
        | (show OpOk _ _ _ _ _ _ _; first | refine opB (fun b => ?_) | refine opA (fun a' c' hc1 hc2 => ?_))
        | (show GJ _ _ _ _ _ _ _; first | (apply GJ.and; exact rfl; intro hg) | (apply GJ.or; exact rfl; intro hg) | refine GJ.t omAuto ?_ | refine GJ.f omAuto ?_ | refine GJ.ft omAuto ?_ | refine GJ.ff omAuto ?_))
      have hcs := cellsB_snoc (msgB l) (8 * i + k)
      rw [← msgB_bit (by omega) (by omega)] at hcs
      refine Wk.id ⟨(k + 1, _, _, _, _), ⟨rfl, ?_⟩, ?_, Sub.auto, Sup.auto⟩
      all_goals try dsimp only
      · exact ⟨by omega, hcs, by omega, by omega, by omega⟩
      · omega
    · obtain rfl : k = 8 := by omega
      repeat (first
        | (show _ ∧ _; exact ⟨rfl, rfl, rfl⟩)
        | refine wkG ?_
        | (show OpOk _ _ _ _ _ _ _; first | refine opB (fun b => ?_) | refine opA (fun a' c' hc1 hc2 => ?_))
        | (show GJ _ _ _ _ _ _ _; first | (apply GJ.and; exact rfl; intro hg) | (apply GJ.or; exact rfl; intro hg) | refine GJ.t omAuto ?_ | refine GJ.f omAuto ?_ | refine GJ.ft omAuto ?_ | refine GJ.ff omAuto ?_))
      refine Wk.id ⟨(i + 1, _, _, _, _), ⟨rfl, ?_⟩, ?_, Sub.auto, Sup.auto⟩
      all_goals try dsimp only
      · exact ⟨by omega, rfl, by omega, by omega, by omega⟩
      · omega
  · obtain rfl : i = n := by omega
    repeat (first
      | (show _ ∧ _; exact ⟨rfl, rfl, rfl⟩)
      | refine wkG ?_
      | (show OpOk _ _ _ _ _ _ _; first | refine opB (fun b => ?_) | refine opA (fun a' c' hc1 hc2 => ?_))
      | (show GJ _ _ _ _ _ _ _; first | (apply GJ.and; exact rfl; intro hg) | (apply GJ.or; exact rfl; intro hg) | refine GJ.t omAuto ?_ | refine GJ.f omAuto ?_ | refine GJ.ft omAuto ?_ | refine GJ.ff omAuto ?_))
    refine LoopOk.at (ι := Nat × List Value × Option Addr × Nat × Nat) Keep.auto (fun (k, cs, a2, n2, c2) => [(6, .int .i64 (k : Int)), (3, .slice a2 n2 c2)]) (fun (k, cs, a2, n2, c2) => .sl a2 n2 c2 3 1 cs :: own) (fun (k, cs, a2, n2, c2) => k ≤ 32 ∧ cs = cellsB (msgB l) (8 * i + k) ∧ n2 = 8 * i + k ∧ n2 ≤ c2 ∧ c2 ≤ maxLen) (fun (k, cs, a2, n2, c2) => 32 - k) (0, _, _, _, _) ?_ Sub.auto Sup.auto ?_
    · exact ⟨by omega, rfl, by omega, by omega, by omega⟩
    rintro ⟨k, cs, a2, n2, c2⟩ ⟨k1, rfl, rfl, k3, k4⟩
    dsimp only [List.cons_append, List.nil_append]
    repeat (first
      | (show _ ∧ _; exact ⟨rfl, rfl, rfl⟩)
      | refine wkG ?_
      | (show OpOk _ _ _ _ _ _ _; first | refine opB (fun b => ?_) | refine opA (fun a' c' hc1 hc2 => ?_))
      | (show GJ _ _ _ _ _ _ _; first | (apply GJ.and; exact rfl; intro hg) | (apply GJ.or; exact rfl; intro hg) | refine GJ.t omAuto ?_ | refine GJ.f omAuto ?_ | refine GJ.ft omAuto ?_ | refine GJ.ff omAuto ?_))
    refine Br.cases (fun hd => ?_) (fun hd => ?_)
    · have hcs := cellsB_snoc (msgB l) (8 * i + k)
      rw [← msgB_nought (by omega)] at hcs
      repeat (first
        | (show _ ∧ _; exact ⟨rfl, rfl, rfl⟩)
        | refine wkG ?_
        | (show OpOk _ _ _ _ _ _ _; first | refine opB (fun b => ?_) | refine opA (fun a' c' hc1 hc2 => ?_))
        | (show GJ _ _ _ _ _ _ _; first | (apply GJ.and; exact rfl; intro hg) | (apply GJ.or; exact rfl; intro hg) | refine GJ.t omAuto ?_ | refine GJ.f omAuto ?_ | refine GJ.ft omAuto ?_ | refine GJ.ff omAuto ?_))
      refine Wk.id ⟨(k + 1, _, _, _, _), ⟨rfl, ?_⟩, ?_, Sub.auto, Sup.auto⟩
      all_goals try dsimp only
      · exact ⟨by omega, hcs, by omega, by omega, by omega⟩
      · omega
    · obtain rfl : k = 32 := by omega
      rw [cellsB_congr (γ := turnB (msgB l) 0) (fun j _ => by simp [turnB])]
      repeat (first
        | (show _ ∧ _; exact ⟨rfl, rfl, rfl⟩)
        | refine wkG ?_
        | (show OpOk _ _ _ _ _ _ _; first | refine opB (fun b => ?_) | refine opA (fun a' c' hc1 hc2 => ?_))
        | (show GJ _ _ _ _ _ _ _; first | (apply GJ.and; exact rfl; intro hg) | (apply GJ.or; exact rfl; intro hg) | refine GJ.t omAuto ?_ | refine GJ.f omAuto ?_ | refine GJ.ft omAuto ?_ | refine GJ.ff omAuto ?_))
      refine LoopOk.at (ι := Nat × List Value) Keep.auto (fun (k, cs) => [(7, .int .i64 (k : Int))]) (fun (k, cs) => .sl a2 (8 * i + 32) c2 3 1 cs :: own) (fun (k, cs) => k ≤ 32 ∧ cs = cellsB (turnB (msgB l) k) (8 * i + 32)) (fun (k, cs) => 32 - k) (0, _) ?_ Sub.auto Sup.auto ?_
      · exact ⟨by omega, rfl⟩
      rintro ⟨k, cs⟩ ⟨k1, rfl⟩
      dsimp only [List.cons_append, List.nil_append]
      repeat (first
        | (show _ ∧ _; exact ⟨rfl, rfl, rfl⟩)
        | refine wkG ?_
        | (show OpOk _ _ _ _ _ _ _; first | refine opB (fun b => ?_) | refine opA (fun a' c' hc1 hc2 => ?_))
        | (show GJ _ _ _ _ _ _ _; first | (apply GJ.and; exact rfl; intro hg) | (apply GJ.or; exact rfl; intro hg) | refine GJ.t omAuto ?_ | refine GJ.f omAuto ?_ | refine GJ.ft omAuto ?_ | refine GJ.ff omAuto ?_))
      refine Br.cases (fun hd => ?_) (fun hd => ?_)
      · have hg := cellsB_get (β := turnB (msgB l) k) (n := 8 * i + 32) (j := k) (by omega)
        have hsx := cellsB_set (β := turnB (msgB l) k) (γ := turnB (msgB l) (k + 1)) (n := 8 * i + 32) (i := k) (v := 1 - ((turnB (msgB l) k k).toNat : Int)) (by omega) (by unfold turnB; simp; cases msgB l k <;> rfl) (fun j hj => by unfold turnB; congr 1; simp; omega)
        have hb1 := Bool.toNat_lt (turnB (msgB l) k k)
        repeat (first
          | (show _ ∧ _; exact ⟨rfl, rfl, rfl⟩)
          | refine wkG ?_
          | (show OpOk _ _ _ _ _ _ _; first | refine opB (fun b => ?_) | refine opA (fun a' c' hc1 hc2 => ?_))
          | (show GJ _ _ _ _ _ _ _; first | (apply GJ.and; exact rfl; intro hg) | (apply GJ.or; exact rfl; intro hg) | refine GJ.t omAuto ?_ | refine GJ.f omAuto ?_ | refine GJ.ft omAuto ?_ | refine GJ.ff omAuto ?_))
        rw [Int.toNat_natCast]
        refine OpOk.load rfl rfl (Ld.hasSl hg) ?_
        repeat (first
          | (show _ ∧ _; exact ⟨rfl, rfl, rfl⟩)
          | refine wkG ?_
          | (show OpOk _ _ _ _ _ _ _; first | refine opB (fun b => ?_) | refine opA (fun a' c' hc1 hc2 => ?_))
          | (show GJ _ _ _ _ _ _ _; first | (apply GJ.and; exact rfl; intro hg) | (apply GJ.or; exact rfl; intro hg) | refine GJ.t omAuto ?_ | refine GJ.f omAuto ?_ | refine GJ.ft omAuto ?_ | refine GJ.ff omAuto ?_))
        rw [Int.toNat_natCast]
        refine OpOk.storeSl rfl rfl rfl rfl (by rw [cellsB_len]; omega) ?_
        rw [hsx]
        repeat (first
          | (show _ ∧ _; exact ⟨rfl, rfl, rfl⟩)
          | refine wkG ?_
          | (show OpOk _ _ _ _ _ _ _; first | refine opB (fun b => ?_) | refine opA (fun a' c' hc1 hc2 => ?_))
          | (show GJ _ _ _ _ _ _ _; first | (apply GJ.and; exact rfl; intro hg) | (apply GJ.or; exact rfl; intro hg) | refine GJ.t omAuto ?_ | refine GJ.f omAuto ?_ | refine GJ.ft omAuto ?_ | refine GJ.ff omAuto ?_))
        refine Wk.id ⟨(k + 1, _), ⟨rfl, ?_⟩, ?_, Sub.auto, Sup.auto⟩
        all_goals try dsimp only
        · exact ⟨by omega, rfl⟩
        · omega
      · obtain rfl : k = 32 := by omega
        rw [show turnB (msgB l) 32 = divB (msgB l) 0 from funext fun j => rfl]
        repeat (first
          | (show _ ∧ _; exact ⟨rfl, rfl, rfl⟩)
          | refine wkG ?_
          | (show OpOk _ _ _ _ _ _ _; first | refine opB (fun b => ?_) | refine opA (fun a' c' hc1 hc2 => ?_))
          | (show GJ _ _ _ _ _ _ _; first | (apply GJ.and; exact rfl; intro hg) | (apply GJ.or; exact rfl; intro hg) | refine GJ.t omAuto ?_ | refine GJ.f omAuto ?_ | refine GJ.ft omAuto ?_ | refine GJ.ff omAuto ?_))
        refine LoopOk.at (ι := Nat × List Value) Keep.auto (fun (k, cs) => [(9, .int .i64 (k : Int))]) (fun (k, cs) => .sl (some ⟨b, 0, none⟩) 32 32 3 1 (polyL.map fun x : Nat => Value.int .i64 (x : Int)) :: .sl a2 (8 * i + 32) c2 3 1 cs :: own) (fun (k, cs) => k ≤ 8 * i ∧ cs = cellsB (divB (msgB l) k) (8 * i + 32)) (fun (k, cs) => 8 * i - k) (0, _) ?_ Sub.auto Sup.auto ?_
        · exact ⟨by omega, rfl⟩
        rintro ⟨j, cs⟩ ⟨j1, rfl⟩
        dsimp only [List.cons_append, List.nil_append]
        repeat (first
          | (show _ ∧ _; exact ⟨rfl, rfl, rfl⟩)
          | refine wkG ?_
          | (show OpOk _ _ _ _ _ _ _; first | refine opB (fun b => ?_) | refine opA (fun a' c' hc1 hc2 => ?_))
          | (show GJ _ _ _ _ _ _ _; first | (apply GJ.and; exact rfl; intro hg) | (apply GJ.or; exact rfl; intro hg) | refine GJ.t omAuto ?_ | refine GJ.f omAuto ?_ | refine GJ.ft omAuto ?_ | refine GJ.ff omAuto ?_))
        refine Br.cases (fun hd => ?_) (fun hd => ?_)
        · have hg := cellsB_get (β := divB (msgB l) j) (n := 8 * i + 32) (j := j) (by omega)
          have hb1 := Bool.toNat_lt (divB (msgB l) j j)
          repeat (first
            | (show _ ∧ _; exact ⟨rfl, rfl, rfl⟩)
            | refine wkG ?_
            | (show OpOk _ _ _ _ _ _ _; first | refine opB (fun b => ?_) | refine opA (fun a' c' hc1 hc2 => ?_))
            | (show GJ _ _ _ _ _ _ _; first | (apply GJ.and; exact rfl; intro hg) | (apply GJ.or; exact rfl; intro hg) | refine GJ.t omAuto ?_ | refine GJ.f omAuto ?_ | refine GJ.ft omAuto ?_ | refine GJ.ff omAuto ?_))
          refine SeqOk.pass ?_
          repeat (first
            | (show _ ∧ _; exact ⟨rfl, rfl, rfl⟩)
            | refine wkG ?_
            | (show OpOk _ _ _ _ _ _ _; first | refine opB (fun b => ?_) | refine opA (fun a' c' hc1 hc2 => ?_))
            | (show GJ _ _ _ _ _ _ _; first | (apply GJ.and; exact rfl; intro hg) | (apply GJ.or; exact rfl; intro hg) | refine GJ.t omAuto ?_ | refine GJ.f omAuto ?_ | refine GJ.ft omAuto ?_ | refine GJ.ff omAuto ?_))
          rw [Int.toNat_natCast]
          refine OpOk.load rfl rfl (Ld.hasSl hg) ?_
          repeat (first
            | (show _ ∧ _; exact ⟨rfl, rfl, rfl⟩)
            | refine wkG ?_
            | (show OpOk _ _ _ _ _ _ _; first | refine opB (fun b => ?_) | refine opA (fun a' c' hc1 hc2 => ?_))
            | (show GJ _ _ _ _ _ _ _; first | (apply GJ.and; exact rfl; intro hg) | (apply GJ.or; exact rfl; intro hg) | refine GJ.t omAuto ?_ | refine GJ.f omAuto ?_ | refine GJ.ft omAuto ?_ | refine GJ.ff omAuto ?_))
          refine Br.cases (fun he => ?_) (fun he => ?_)
          · have hbit : divB (msgB l) j j = true := by
              revert he; cases divB (msgB l) j j <;> simp
            repeat (first
              | (show _ ∧ _; exact ⟨rfl, rfl, rfl⟩)
              | refine wkG ?_
              | (show OpOk _ _ _ _ _ _ _; first | refine opB (fun b => ?_) | refine opA (fun a' c' hc1 hc2 => ?_))
              | (show GJ _ _ _ _ _ _ _; first | (apply GJ.and; exact rfl; intro hg) | (apply GJ.or; exact rfl; intro hg) | refine GJ.t omAuto ?_ | refine GJ.f omAuto ?_ | refine GJ.ft omAuto ?_ | refine GJ.ff omAuto ?_))
            rw [cellsB_congr (γ := addB (divB (msgB l) j) j 0) (fun x _ => by unfold addB; rw [show decide (j < x ∧ x < j + 1 + 0) = false by simp; omega]; simp)]
            refine LoopOk.at (ι := Nat × List Value) Keep.auto (fun (k, cs) => [(10, .int .i64 (k : Int))]) (fun (k, cs) => .sl (some ⟨b, 0, none⟩) 32 32 3 1 (polyL.map fun x : Nat => Value.int .i64 (x : Int)) :: .sl a2 (8 * i + 32) c2 3 1 cs :: own) (fun (k, cs) => k ≤ 32 ∧ cs = cellsB (addB (divB (msgB l) j) j k) (8 * i + 32)) (fun (k, cs) => 32 - k) (0, _) ?_ Sub.auto Sup.auto ?_
            · exact ⟨by omega, rfl⟩
            rintro ⟨k, cs⟩ ⟨k1, rfl⟩
            dsimp only [List.cons_append, List.nil_append]
            repeat (first
              | (show _ ∧ _; exact ⟨rfl, rfl, rfl⟩)
              | refine wkG ?_
              | (show OpOk _ _ _ _ _ _ _; first | refine opB (fun b => ?_) | refine opA (fun a' c' hc1 hc2 => ?_))
              | (show GJ _ _ _ _ _ _ _; first | (apply GJ.and; exact rfl; intro hg) | (apply GJ.or; exact rfl; intro hg) | refine GJ.t omAuto ?_ | refine GJ.f omAuto ?_ | refine GJ.ft omAuto ?_ | refine GJ.ff omAuto ?_))
            refine Br.cases (fun hf => ?_) (fun hf => ?_)
            · have hg2 := cellsB_get (β := addB (divB (msgB l) j) j k) (n := 8 * i + 32) (j := j + 1 + k) (by omega)
              have hp := polyL_at (k := k) (by omega)
              have hsx := cellsB_set (β := addB (divB (msgB l) j) j k) (γ := addB (divB (msgB l) j) j (k + 1)) (n := 8 * i + 32) (i := j + 1 + k) (v := (((addB (divB (msgB l) j) j k (j + 1 + k)).toNat : Int) + ((polyB k).toNat : Int)) % 2) (by omega) (addB_step _ _ _) (fun x hx => addB_other hx)
              have hb2 := Bool.toNat_lt (addB (divB (msgB l) j) j k (j + 1 + k))
              have hb3 := Bool.toNat_lt (polyB k)
              repeat (first
                | (show _ ∧ _; exact ⟨rfl, rfl, rfl⟩)
                | refine wkG ?_
                | (show OpOk _ _ _ _ _ _ _; first | refine opB (fun b => ?_) | refine opA (fun a' c' hc1 hc2 => ?_))
                | (show GJ _ _ _ _ _ _ _; first | (apply GJ.and; exact rfl; intro hg) | (apply GJ.or; exact rfl; intro hg) | refine GJ.t omAuto ?_ | refine GJ.f omAuto ?_ | refine GJ.ft omAuto ?_ | refine GJ.ff omAuto ?_))
              rw [show ((j : Int) + 1 + (k : Int)).toNat = j + 1 + k by omega]
              refine QOk.load rfl rfl (Ld.hasSl hg2) ?_
              repeat (first
                | (show _ ∧ _; exact ⟨rfl, rfl, rfl⟩)
                | refine wkG ?_
                | (show OpOk _ _ _ _ _ _ _; first | refine opB (fun b => ?_) | refine opA (fun a' c' hc1 hc2 => ?_))
                | (show GJ _ _ _ _ _ _ _; first | (apply GJ.and; exact rfl; intro hg) | (apply GJ.or; exact rfl; intro hg) | refine GJ.t omAuto ?_ | refine GJ.f omAuto ?_ | refine GJ.ft omAuto ?_ | refine GJ.ff omAuto ?_))
              rw [Int.toNat_natCast]
              refine QOk.load rfl rfl (Ld.hasSl hp) ?_
              repeat (first
                | (show _ ∧ _; exact ⟨rfl, rfl, rfl⟩)
                | refine wkG ?_
                | (show OpOk _ _ _ _ _ _ _; first | refine opB (fun b => ?_) | refine opA (fun a' c' hc1 hc2 => ?_))
                | (show GJ _ _ _ _ _ _ _; first | (apply GJ.and; exact rfl; intro hg) | (apply GJ.or; exact rfl; intro hg) | refine GJ.t omAuto ?_ | refine GJ.f omAuto ?_ | refine GJ.ft omAuto ?_ | refine GJ.ff omAuto ?_))
              rw [show ((j : Int) + 1 + (k : Int)).toNat = j + 1 + k by omega]
              refine OpOk.storeSl rfl rfl rfl rfl (by rw [cellsB_len]; omega) ?_
              rw [hsx]
              repeat (first
                | (show _ ∧ _; exact ⟨rfl, rfl, rfl⟩)
                | refine wkG ?_
                | (show OpOk _ _ _ _ _ _ _; first | refine opB (fun b => ?_) | refine opA (fun a' c' hc1 hc2 => ?_))
                | (show GJ _ _ _ _ _ _ _; first | (apply GJ.and; exact rfl; intro hg) | (apply GJ.or; exact rfl; intro hg) | refine GJ.t omAuto ?_ | refine GJ.f omAuto ?_ | refine GJ.ft omAuto ?_ | refine GJ.ff omAuto ?_))
              refine Wk.id ⟨(k + 1, _), ⟨rfl, ?_⟩, ?_, Sub.auto, Sup.auto⟩
              all_goals try dsimp only
              · exact ⟨by omega, rfl⟩
              · omega
            · obtain rfl : k = 32 := by omega
              rw [cellsB_congr (γ := divB (msgB l) (j + 1)) (fun x _ => addB_all hbit x)]
              repeat (first
                | (show _ ∧ _; exact ⟨rfl, rfl, rfl⟩)
                | refine wkG ?_
                | (show OpOk _ _ _ _ _ _ _; first | refine opB (fun b => ?_) | refine opA (fun a' c' hc1 hc2 => ?_))
                | (show GJ _ _ _ _ _ _ _; first | (apply GJ.and; exact rfl; intro hg) | (apply GJ.or; exact rfl; intro hg) | refine GJ.t omAuto ?_ | refine GJ.f omAuto ?_ | refine GJ.ft omAuto ?_ | refine GJ.ff omAuto ?_))
              refine Wk.id ⟨(j + 1, _), ⟨rfl, ?_⟩, ?_, Sub.auto, Sup.auto⟩
              all_goals try dsimp only
              · exact ⟨by omega, rfl⟩
              · omega
          · have hbit : divB (msgB l) j j = false := by
              revert he; cases divB (msgB l) j j <;> simp
            rw [cellsB_congr (γ := divB (msgB l) (j + 1)) (fun x _ => divB_skip hbit x)]
            repeat (first
              | (show _ ∧ _; exact ⟨rfl, rfl, rfl⟩)
              | refine wkG ?_
              | (show OpOk _ _ _ _ _ _ _; first | refine opB (fun b => ?_) | refine opA (fun a' c' hc1 hc2 => ?_))
              | (show GJ _ _ _ _ _ _ _; first | (apply GJ.and; exact rfl; intro hg) | (apply GJ.or; exact rfl; intro hg) | refine GJ.t omAuto ?_ | refine GJ.f omAuto ?_ | refine GJ.ft omAuto ?_ | refine GJ.ff omAuto ?_))
            refine Wk.id ⟨(j + 1, _), ⟨rfl, ?_⟩, ?_, Sub.auto, Sup.auto⟩
            all_goals try dsimp only
            · exact ⟨by omega, rfl⟩
            · omega
        · obtain rfl : j = 8 * i := by omega
          have hnum := numB_crc l
          rw [hl] at hnum
          generalize hγ : divB (msgB l) (8 * i) = γ at hnum
          repeat (first
            | (show _ ∧ _; exact ⟨rfl, rfl, rfl⟩)
            | refine wkG ?_
            | (show OpOk _ _ _ _ _ _ _; first | refine opB (fun b => ?_) | refine opA (fun a' c' hc1 hc2 => ?_))
            | (show GJ _ _ _ _ _ _ _; first | (apply GJ.and; exact rfl; intro hg) | (apply GJ.or; exact rfl; intro hg) | refine GJ.t omAuto ?_ | refine GJ.f omAuto ?_ | refine GJ.ft omAuto ?_ | refine GJ.ff omAuto ?_))
          refine LoopOk.at (ι := Nat × Nat) Keep.auto (fun (k, x) => [(12, .int .i64 (k : Int)), (11, .int .u32 (x : Int))]) (fun (k, x) => .sl (some ⟨b, 0, none⟩) 32 32 3 1 (polyL.map fun x : Nat => Value.int .i64 (x : Int)) :: .sl a2 (8 * i + 32) c2 3 1 (cellsB γ (8 * i + 32)) :: own) (fun (k, x) => k ≤ 32 ∧ x = numB (fun j => γ (8 * i + j)) k) (fun (k, x) => 32 - k) (0, 0) ?_ Sub.auto Sup.auto ?_
          · exact ⟨by omega, rfl⟩
          rintro ⟨k, x⟩ ⟨k1, rfl⟩
          dsimp only [List.cons_append, List.nil_append]
          repeat (first
            | (show _ ∧ _; exact ⟨rfl, rfl, rfl⟩)
            | refine wkG ?_
            | (show OpOk _ _ _ _ _ _ _; first | refine opB (fun b => ?_) | refine opA (fun a' c' hc1 hc2 => ?_))
            | (show GJ _ _ _ _ _ _ _; first | (apply GJ.and; exact rfl; intro hg) | (apply GJ.or; exact rfl; intro hg) | refine GJ.t omAuto ?_ | refine GJ.f omAuto ?_ | refine GJ.ft omAuto ?_ | refine GJ.ff omAuto ?_))
          refine Br.cases (fun he => ?_) (fun he => ?_)
          · have hg := cellsB_get (β := γ) (n := 8 * i + 32) (j := 8 * i + (31 - k)) (by omega)
            have hb1 := Bool.toNat_lt (γ (8 * i + (31 - k)))
            have hnn := numB_lt' (fun j => γ (8 * i + j)) k
            have hpw := Nat.pow_le_pow_right (n := 2) (by omega) (show k ≤ 31 by omega)
            have hsn : numB (fun j => γ (8 * i + j)) (k + 1) = numB (fun j => γ (8 * i + j)) k * 2 + (1 - (γ (8 * i + (31 - k))).toNat) := rfl
            generalize numB (fun j => γ (8 * i + j)) k = x at hnn hsn
            repeat (first
              | (show _ ∧ _; exact ⟨rfl, rfl, rfl⟩)
              | refine wkG ?_
              | (show OpOk _ _ _ _ _ _ _; first | refine opB (fun b => ?_) | refine opA (fun a' c' hc1 hc2 => ?_))
              | (show GJ _ _ _ _ _ _ _; first | (apply GJ.and; exact rfl; intro hg) | (apply GJ.or; exact rfl; intro hg) | refine GJ.t omAuto ?_ | refine GJ.f omAuto ?_ | refine GJ.ft omAuto ?_ | refine GJ.ff omAuto ?_))
            rw [show (((8 * i + 32 : Nat) : Int) - 1 - (k : Int)).toNat = 8 * i + (31 - k) by omega]
            refine OpOk.load rfl rfl (Ld.hasSl hg) ?_
            repeat (first
              | (show _ ∧ _; exact ⟨rfl, rfl, rfl⟩)
              | refine wkG ?_
              | (show OpOk _ _ _ _ _ _ _; first | refine opB (fun b => ?_) | refine opA (fun a' c' hc1 hc2 => ?_))
              | (show GJ _ _ _ _ _ _ _; first | (apply GJ.and; exact rfl; intro hg) | (apply GJ.or; exact rfl; intro hg) | refine GJ.t omAuto ?_ | refine GJ.f omAuto ?_ | refine GJ.ft omAuto ?_ | refine GJ.ff omAuto ?_))
            refine Wk.id ⟨(k + 1, x * 2 + (1 - (γ (8 * i + (31 - k))).toNat)), ⟨rfl, ?_⟩, ?_, Sub.auto, Sup.auto⟩
            all_goals try dsimp only
            · exact ⟨by omega, hsn.symm⟩
            · omega
          · obtain rfl : k = 32 := by omega
            rw [hnum]
            repeat (first
              | (show _ ∧ _; exact ⟨rfl, rfl, rfl⟩)
              | refine wkG ?_
              | (show OpOk _ _ _ _ _ _ _; first | refine opB (fun b => ?_) | refine opA (fun a' c' hc1 hc2 => ?_))
              | (show GJ _ _ _ _ _ _ _; first | (apply GJ.and; exact rfl; intro hg) | (apply GJ.or; exact rfl; intro hg) | refine GJ.t omAuto ?_ | refine GJ.f omAuto ?_ | refine GJ.ft omAuto ?_ | refine GJ.ff omAuto ?_))
            exact Wk.outS Sup.auto (.refl _) hk
end
end Go.Proofs.Ytpjiaafkcojddaa
