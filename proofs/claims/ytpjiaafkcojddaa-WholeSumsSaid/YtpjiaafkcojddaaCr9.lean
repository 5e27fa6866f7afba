/- The laws' contracts of crc. -/
import Derived.Test.YtpjiaafkcojddaaCr8
import Derived.Test.YtpjiaafkcojddaaV13
import Derived.Test.YtpjiaafkcojddaaV11
namespace Go.Proofs.Ytpjiaafkcojddaa
open Go Go.E
set_option linter.unusedVariables false
set_option maxRecDepth 10000
def nine : List UInt8 := [49, 50, 51, 52, 53, 54, 55, 56, 57]
theorem crcOf_nine : crcOf nine = 3421780262 := by decide +kernel
theorem tcells_none : [Value.int .u32 0, .int .i32 0] ++ List.replicate 257 (.int .u32 0) ++ [.int .i32 0, .int .u64 0] = tcells none := by rw [tcells, tbl, rowsAt_zero]; rfl
theorem byte_at (w k : Nat) (c : UInt8) : ((c.toNat : Int) = (w : Int) / 2 ^ k % 256) ↔ c = UInt8.ofNat (w / 2 ^ k) := by
  rw [← UInt8.toNat_inj]
  have h : ((w : Int) / 2 ^ k) = ((w / 2 ^ k : Nat) : Int) := by simp
  rw [h]
  simp
  omega
theorem last4 {l : List UInt8} {m : Nat} (hl : l.length = m + 4) : l = l.take m ++ [l[m]!, l[m + 1]!, l[m + 2]!, l[m + 3]!] := by
  apply List.ext_getElem
  · simp; omega
  · intro i h1 h2
    rcases Nat.lt_or_ge i m with h3 | h3
    · rw [List.getElem_append_left (by simp; omega)]; simp
    · rw [List.getElem_append_right (by simp; omega)]
      have hm : (l.take m).length = m := by simp; omega
      simp only [hm]
      obtain ⟨k, rfl⟩ : ∃ k, i = m + k := ⟨i - m, by omega⟩
      have hk : k < 4 := by omega
      simp only [Nat.add_sub_cancel_left]
      rcases k with _ | _ | _ | _ | k
      · simp [List.getElem!_eq_getElem?_getD, List.getElem?_eq_getElem (show m < l.length by omega)]
      · simp [List.getElem!_eq_getElem?_getD, List.getElem?_eq_getElem (show m + 1 < l.length by omega)]
      · simp [List.getElem!_eq_getElem?_getD, List.getElem?_eq_getElem (show m + 2 < l.length by omega)]
      · simp [List.getElem!_eq_getElem?_getD, List.getElem?_eq_getElem (show m + 3 < l.length by omega)]
      · omega
theorem be4_at {l : List UInt8} {m w : Nat} (hl : l.length = m + 4) :
    (decide (((l[(((m + 4 : Nat) : Int) - 4).toNat]!).toNat : Int) = (w : Int) / 2 ^ Int.toNat 24 % 256) && decide (((l[(((m + 4 : Nat) : Int) - 4 + 1).toNat]!).toNat : Int) = (w : Int) / 2 ^ Int.toNat 16 % 256) && decide (((l[(((m + 4 : Nat) : Int) - 4 + 2).toNat]!).toNat : Int) = (w : Int) / 2 ^ Int.toNat 8 % 256) && decide (((l[(((m + 4 : Nat) : Int) - 4 + 3).toNat]!).toNat : Int) = (w : Int) % 256)) = decide (l.take m ++ be4 w = l) := by
  rw [show (((m + 4 : Nat) : Int) - 4).toNat = m by omega, show (((m + 4 : Nat) : Int) - 4 + 1).toNat = m + 1 by omega, show (((m + 4 : Nat) : Int) - 4 + 2).toNat = m + 2 by omega, show (((m + 4 : Nat) : Int) - 4 + 3).toNat = m + 3 by omega]
  have h0 := byte_at w 0 l[m + 3]!
  have h1 := byte_at w 8 l[m + 2]!
  have h2 := byte_at w 16 l[m + 1]!
  have h3 := byte_at w 24 l[m]!
  simp only [Int.pow_zero, Int.ediv_one, Nat.pow_zero, Nat.div_one] at h0
  rw [Bool.eq_iff_iff]
  simp only [Bool.and_eq_true, decide_eq_true_eq]
  rw [show Int.toNat 24 = 24 from rfl, show Int.toNat 16 = 16 from rfl, show Int.toNat 8 = 8 from rfl, h0, h1, h2, h3]
  conv => rhs; rw [last4 hl]
  rw [List.take_left' (by simp; omega), List.append_cancel_left_eq, be4]
  simp only [List.cons.injEq, and_true]
  constructor
  · rintro ⟨⟨⟨a, b⟩, c⟩, d⟩; exact ⟨a.symm, b.symm, c.symm, d.symm⟩
  · rintro ⟨a, b, c, d⟩; exact ⟨⟨⟨a.symm, b.symm⟩, c.symm⟩, d.symm⟩
theorem fill_set {X : List Value} {z v : Value} {n i : Nat} (hX : X.length = n) (hi : i < n) (hv : X[i]? = some v) : (X.take i ++ List.replicate (n - i) z).set i v = X.take (i + 1) ++ List.replicate (n - (i + 1)) z := by
  have h1 : (X.take i).length = i := by simp; omega
  rw [List.set_append_right _ _ (by omega), h1, Nat.sub_self, show n - i = n - (i + 1) + 1 by omega, List.replicate_succ, List.set_cons_zero, List.take_add_one, hv]
  simp
theorem xorL_get {l m : List UInt8} {i : Nat} (h1 : i < l.length) (h2 : i < m.length) : (xorL l m)[i]? = some (l[i]! ^^^ m[i]!) := by
  simp [xorL, List.getElem?_zipWith, List.getElem!_eq_getElem?_getD, List.getElem?_eq_getElem h1, List.getElem?_eq_getElem h2]
theorem sealed_set {l : List UInt8} {i n : Nat} {d : UInt8} (hn : l.length = n) (hi : i < n + 4) (hd : d ≠ (l ++ be4 (crcOf l))[i]!) : (((l ++ be4 (crcOf l)).set i d).take n ++ be4 (crcOf (((l ++ be4 (crcOf l)).set i d).take n))) ≠ (l ++ be4 (crcOf l)).set i d := by
  intro h
  rcases Nat.lt_or_ge i n with h1 | h1
  · rw [List.set_append_left _ _ (by omega), List.take_left' (by simp; omega), List.append_cancel_left_eq] at h
    have h2 := be4_inj (crcOf_lt _) (crcOf_lt _) h
    refine crcOf_set (by omega) ?_ h2
    intro e; apply hd; rw [e]
    simp [List.getElem!_eq_getElem?_getD, List.getElem?_append_left (show i < l.length by omega)]
  · have e : (l ++ be4 (crcOf l)).set i d = l ++ (be4 (crcOf l)).set (i - n) d := by rw [List.set_append_right _ _ (by omega), hn]
    rw [e, List.take_left' hn, List.append_cancel_left_eq] at h
    have h2 := congrArg (fun z : List UInt8 => z[i - n]!) h
    have h3 : i - n < (be4 (crcOf l)).length := by rw [be4_len]; omega
    simp only [List.getElem!_eq_getElem?_getD, List.getElem?_set_self h3] at h2
    apply hd
    rw [List.getElem!_eq_getElem?_getD, List.getElem?_append_right (by omega), hn]
    exact h2.symm
section
variable {ro : Ro} {own r : Chs} {K : Value → Ro → Chs → Prop} {g : Chunk → Chs}
theorem checks_ok (hk : K (.bool true) ro own) : CallOk Try.prog 12 #[] ro own K := by
  refine CallOk.back ?_
  refine CallOk.intro (args := []) (rs := [_]) T_ok Try.func12 Try.call12 rfl rfl (by kernel_rfl) rfl rfl ?_
  repeat (first
    | (show _ ∧ _; exact ⟨rfl, rfl, rfl⟩)
    | refine wkG ?_
    | (show OpOk _ _ _ _ _ _ _; first | refine opB (fun b => ?_) | refine opA (fun a' c' hc1 hc2 => ?_))
    | (show GJ _ _ _ _ _ _ _; first | (apply GJ.and; exact rfl; intro hg) | (apply GJ.or; exact rfl; intro hg) | refine GJ.t omAuto ?_ | refine GJ.f omAuto ?_ | refine GJ.ft omAuto ?_ | refine GJ.ff omAuto ?_))
  rw [tcells_none]
  refine made_ok (rows := rowsAt 0) (d := 0) (st := 0) (k := 0) (rowsAt_len _) (by omega) ?_
  repeat (first
    | (show _ ∧ _; exact ⟨rfl, rfl, rfl⟩)
    | refine wkG ?_
    | (show OpOk _ _ _ _ _ _ _; first | refine opB (fun b => ?_) | refine opA (fun a' c' hc1 hc2 => ?_))
    | (show GJ _ _ _ _ _ _ _; first | (apply GJ.and; exact rfl; intro hg) | (apply GJ.or; exact rfl; intro hg) | refine GJ.t omAuto ?_ | refine GJ.f omAuto ?_ | refine GJ.ft omAuto ?_ | refine GJ.ff omAuto ?_))
  refine OpOk.bytesConst rfl rfl rfl rfl (fun ro1 hl1 hr1 => ?_)
  repeat (first
    | (show _ ∧ _; exact ⟨rfl, rfl, rfl⟩)
    | refine wkG ?_
    | (show OpOk _ _ _ _ _ _ _; first | refine opB (fun b => ?_) | refine opA (fun a' c' hc1 hc2 => ?_))
    | (show GJ _ _ _ _ _ _ _; first | (apply GJ.and; exact rfl; intro hg) | (apply GJ.or; exact rfl; intro hg) | refine GJ.t omAuto ?_ | refine GJ.f omAuto ?_ | refine GJ.ft omAuto ?_ | refine GJ.ff omAuto ?_))
  refine tof_ok (l := nine) (o := none) hr1.rds (by omega) (by simp) ?_
  rw [crcOf_nine]
  repeat (first
    | (show _ ∧ _; exact ⟨rfl, rfl, rfl⟩)
    | refine wkT ?_
    | (show OpOk _ _ _ _ _ _ _; first | refine opB (fun b => ?_) | refine opA (fun a' c' hc1 hc2 => ?_))
    | (show GJ _ _ _ _ _ _ _; first | (apply GJ.and; exact rfl; intro hg) | (apply GJ.or; exact rfl; intro hg)))
  refine made_ok (rows := rowsAt 256) (d := 1) (st := 0) (k := ((0 + 9 : Nat) : Int)) (m := 1) (rowsAt_len _) (by omega) ?_
  repeat (first
    | (show _ ∧ _; exact ⟨rfl, rfl, rfl⟩)
    | refine wkT ?_
    | (show OpOk _ _ _ _ _ _ _; first | refine opB (fun b => ?_) | refine opA (fun a' c' hc1 hc2 => ?_))
    | (show GJ _ _ _ _ _ _ _; first | (apply GJ.and; exact rfl; intro hg) | (apply GJ.or; exact rfl; intro hg)))
  refine bytes_ok (rows := rowsAt 256) (d := 1) (st := 0) (k := ((0 + 9 : Nat) : Int)) (m := 1) (rowsAt_len _) ?_
  repeat (first
    | (show _ ∧ _; exact ⟨rfl, rfl, rfl⟩)
    | refine wkT ?_
    | (show OpOk _ _ _ _ _ _ _; first | refine opB (fun b => ?_) | refine opA (fun a' c' hc1 hc2 => ?_))
    | (show GJ _ _ _ _ _ _ _; first | (apply GJ.and; exact rfl; intro hg) | (apply GJ.or; exact rfl; intro hg)))
  refine start_ok ?_
  repeat (first
    | (show _ ∧ _; exact ⟨rfl, rfl, rfl⟩)
    | refine wkT ?_
    | (show OpOk _ _ _ _ _ _ _; first | refine opB (fun b => ?_) | refine opA (fun a' c' hc1 hc2 => ?_))
    | (show GJ _ _ _ _ _ _ _; first | (apply GJ.and; exact rfl; intro hg) | (apply GJ.or; exact rfl; intro hg)))
  refine value_ok (x := 4294967295) ?_ (by omega)
  rw [show (4294967295 ^^^ 4294967295 : Nat) = 0 from Nat.xor_self _]
  repeat (first
    | (show _ ∧ _; exact ⟨rfl, rfl, rfl⟩)
    | refine wkT ?_
    | (show OpOk _ _ _ _ _ _ _; first | refine opB (fun b => ?_) | refine opA (fun a' c' hc1 hc2 => ?_))
    | (show GJ _ _ _ _ _ _ _; first | (apply GJ.and; exact rfl; intro hg) | (apply GJ.or; exact rfl; intro hg)))
  refine join0_ok (x := 3421780262) (y := 0) (by omega) (by omega) ?_
  rw [show (3421780262 ^^^ 0 : Nat) = 3421780262 from Nat.xor_zero _]
  repeat (first
    | (show _ ∧ _; exact ⟨rfl, rfl, rfl⟩)
    | refine wkT ?_
    | (show OpOk _ _ _ _ _ _ _; first | refine opB (fun b => ?_) | refine opA (fun a' c' hc1 hc2 => ?_))
    | (show GJ _ _ _ _ _ _ _; first | (apply GJ.and; exact rfl; intro hg) | (apply GJ.or; exact rfl; intro hg)))
  refine Wk.backB ?_ Sup.auto (.refl _) hk
  simp
theorem crcSums_ok {n c : Nat} {a : Option Addr} {l : List UInt8} (hr : Bys ro a n c l) (hk : K (.bool true) ro own) : CallOk Try.prog 3 #[.slice a n c] ro own K := by
  have hl := hr.n
  refine CallOk.back ?_
  refine CallOk.intro (args := [_]) (rs := [_]) T_ok Try.func3 Try.call3 rfl rfl (by kernel_rfl) rfl rfl ?_
  repeat (first
    | (show _ ∧ _; exact ⟨rfl, rfl, rfl⟩)
    | refine wkG ?_
    | (show OpOk _ _ _ _ _ _ _; first | refine opB (fun b => ?_) | refine opA (fun a' c' hc1 hc2 => ?_))
    | (show GJ _ _ _ _ _ _ _; first | (apply GJ.and; exact rfl; intro hg) | (apply GJ.or; exact rfl; intro hg) | refine GJ.t omAuto ?_ | refine GJ.f omAuto ?_ | refine GJ.ft omAuto ?_ | refine GJ.ff omAuto ?_))
  refine checks_ok ?_
  repeat (first
    | (show _ ∧ _; exact ⟨rfl, rfl, rfl⟩)
    | refine wkG ?_
    | (show OpOk _ _ _ _ _ _ _; first | refine opB (fun b => ?_) | refine opA (fun a' c' hc1 hc2 => ?_))
    | (show GJ _ _ _ _ _ _ _; first | (apply GJ.and; exact rfl; intro hg) | (apply GJ.or; exact rfl; intro hg) | refine GJ.t omAuto ?_ | refine GJ.f omAuto ?_ | refine GJ.ft omAuto ?_ | refine GJ.ff omAuto ?_))
  refine Br.cases (fun hc => ?_) (fun hc => ?_)
  · repeat (first
      | (show _ ∧ _; exact ⟨rfl, rfl, rfl⟩)
      | refine wkG ?_
      | (show OpOk _ _ _ _ _ _ _; first | refine opB (fun b => ?_) | refine opA (fun a' c' hc1 hc2 => ?_))
      | (show GJ _ _ _ _ _ _ _; first | (apply GJ.and; exact rfl; intro hg) | (apply GJ.or; exact rfl; intro hg) | refine GJ.t omAuto ?_ | refine GJ.f omAuto ?_ | refine GJ.ft omAuto ?_ | refine GJ.ff omAuto ?_))
    exact Wk.back1 Sup.auto (.refl _) hk
  repeat (first
    | (show _ ∧ _; exact ⟨rfl, rfl, rfl⟩)
    | refine wkG ?_
    | (show OpOk _ _ _ _ _ _ _; first | refine opB (fun b => ?_) | refine opA (fun a' c' hc1 hc2 => ?_))
    | (show GJ _ _ _ _ _ _ _; first | (apply GJ.and; exact rfl; intro hg) | (apply GJ.or; exact rfl; intro hg) | refine GJ.t omAuto ?_ | refine GJ.f omAuto ?_ | refine GJ.ft omAuto ?_ | refine GJ.ff omAuto ?_))
  rw [tcells_none]
  refine tof_ok (o := none) hr.rds (by omega) (by simp) ?_
  repeat (first
    | (show _ ∧ _; exact ⟨rfl, rfl, rfl⟩)
    | refine wkG ?_
    | (show OpOk _ _ _ _ _ _ _; first | refine opB (fun b => ?_) | refine opA (fun a' c' hc1 hc2 => ?_))
    | (show GJ _ _ _ _ _ _ _; first | (apply GJ.and; exact rfl; intro hg) | (apply GJ.or; exact rfl; intro hg) | refine GJ.t omAuto ?_ | refine GJ.f omAuto ?_ | refine GJ.ft omAuto ?_ | refine GJ.ff omAuto ?_))
  refine sum_ok hr.rds (by omega) ?_
  repeat (first
    | (show _ ∧ _; exact ⟨rfl, rfl, rfl⟩)
    | refine wkG ?_
    | (show OpOk _ _ _ _ _ _ _; first | refine opB (fun b => ?_) | refine opA (fun a' c' hc1 hc2 => ?_))
    | (show GJ _ _ _ _ _ _ _; first | (apply GJ.and; exact rfl; intro hg) | (apply GJ.or; exact rfl; intro hg) | refine GJ.t omAuto ?_ | refine GJ.f omAuto ?_ | refine GJ.ft omAuto ?_ | refine GJ.ff omAuto ?_))
  refine Wk.backB ?_ Sup.auto (.refl _) hk
  simp
theorem crcOpens_ok {n c : Nat} {a : Option Addr} {l : List UInt8} (hr : Bys ro a n c l) (hk : K (.bool true) ro own) : CallOk Try.prog 7 #[.slice a n c] ro own K := by
  have hl := hr.n
  refine CallOk.back ?_
  refine CallOk.intro (args := [_]) (rs := [_]) T_ok Try.func7 Try.call7 rfl rfl (by kernel_rfl) rfl rfl ?_
  repeat (first
    | (show _ ∧ _; exact ⟨rfl, rfl, rfl⟩)
    | refine wkG ?_
    | (show OpOk _ _ _ _ _ _ _; first | refine opB (fun b => ?_) | refine opA (fun a' c' hc1 hc2 => ?_))
    | (show GJ _ _ _ _ _ _ _; first | (apply GJ.and; exact rfl; intro hg) | (apply GJ.or; exact rfl; intro hg) | refine GJ.t omAuto ?_ | refine GJ.f omAuto ?_ | refine GJ.ft omAuto ?_ | refine GJ.ff omAuto ?_))
  refine checks_ok ?_
  repeat (first
    | (show _ ∧ _; exact ⟨rfl, rfl, rfl⟩)
    | refine wkG ?_
    | (show OpOk _ _ _ _ _ _ _; first | refine opB (fun b => ?_) | refine opA (fun a' c' hc1 hc2 => ?_))
    | (show GJ _ _ _ _ _ _ _; first | (apply GJ.and; exact rfl; intro hg) | (apply GJ.or; exact rfl; intro hg) | refine GJ.t omAuto ?_ | refine GJ.f omAuto ?_ | refine GJ.ft omAuto ?_ | refine GJ.ff omAuto ?_))
  refine Br.cases (fun hc => ?_) (fun hc => ?_)
  · repeat (first
      | (show _ ∧ _; exact ⟨rfl, rfl, rfl⟩)
      | refine wkG ?_
      | (show OpOk _ _ _ _ _ _ _; first | refine opB (fun b => ?_) | refine opA (fun a' c' hc1 hc2 => ?_))
      | (show GJ _ _ _ _ _ _ _; first | (apply GJ.and; exact rfl; intro hg) | (apply GJ.or; exact rfl; intro hg) | refine GJ.t omAuto ?_ | refine GJ.f omAuto ?_ | refine GJ.ft omAuto ?_ | refine GJ.ff omAuto ?_))
    exact Wk.back1 Sup.auto (.refl _) hk
  rcases Nat.lt_or_ge n 4 with h4 | h4
  · repeat (first
      | (show _ ∧ _; exact ⟨rfl, rfl, rfl⟩)
      | refine wkG ?_
      | (show OpOk _ _ _ _ _ _ _; first | refine opB (fun b => ?_) | refine opA (fun a' c' hc1 hc2 => ?_))
      | (show GJ _ _ _ _ _ _ _; first | (apply GJ.and; exact rfl; intro hg) | (apply GJ.or; exact rfl; intro hg) | refine GJ.t omAuto ?_ | refine GJ.f omAuto ?_ | refine GJ.ft omAuto ?_ | refine GJ.ff omAuto ?_))
    refine open_short (o := none) h4 ?_
    repeat (first
      | (show _ ∧ _; exact ⟨rfl, rfl, rfl⟩)
      | refine wkT ?_
      | (show OpOk _ _ _ _ _ _ _; first | refine opB (fun b => ?_) | refine opA (fun a' c' hc1 hc2 => ?_))
      | (show GJ _ _ _ _ _ _ _; first | (apply GJ.and; exact rfl; intro hg) | (apply GJ.or; exact rfl; intro hg)))
    refine Wk.backB ?_ Sup.auto (.refl _) hk
    simp
  · obtain ⟨m, rfl⟩ : ∃ m, n = m + 4 := ⟨n - 4, by omega⟩
    have hcut := hr.cutB (lo := 0) (hi := ((m + 4 : Nat) : Int) - 4) (by omega)
    have e1 : (((m + 4 : Nat) : Int) - 4).toNat = m := by omega
    have hle := hr.le
    rw [e1] at hcut
    simp only [Int.toNat_zero, Nat.sub_zero, List.drop_zero] at hcut
    repeat (first
      | (show _ ∧ _; exact ⟨rfl, rfl, rfl⟩)
      | refine wkG ?_
      | (show OpOk _ _ _ _ _ _ _; first | refine opB (fun b => ?_) | refine opA (fun a' c' hc1 hc2 => ?_))
      | (show GJ _ _ _ _ _ _ _; first | (apply GJ.and; exact rfl; intro hg) | (apply GJ.or; exact rfl; intro hg) | refine GJ.t omAuto ?_ | refine GJ.f omAuto ?_ | refine GJ.ft omAuto ?_ | refine GJ.ff omAuto ?_))
    rw [tcells_none]
    refine open_ok (m := m) (o := none) hr.rds (by omega) rfl (by simp) (fun he a' c' h1 h2 => ?_) (fun he => ?_)
    · repeat (first
        | (show _ ∧ _; exact ⟨rfl, rfl, rfl⟩)
        | refine wkT ?_
        | (show OpOk _ _ _ _ _ _ _; first | refine opB (fun b => ?_) | refine opA (fun a' c' hc1 hc2 => ?_))
        | (show GJ _ _ _ _ _ _ _; first | (apply GJ.and; exact rfl; intro hg) | (apply GJ.or; exact rfl; intro hg)))
      rw [e1]
      simp only [Int.toNat_zero, Nat.sub_zero]
      refine sum_ok hcut.rds (by omega) ?_
      repeat (first
        | (show _ ∧ _; exact ⟨rfl, rfl, rfl⟩)
        | refine wkG ?_
        | (show OpOk _ _ _ _ _ _ _; first | refine opB (fun b => ?_) | refine opA (fun a' c' hc1 hc2 => ?_))
        | (show GJ _ _ _ _ _ _ _; first | (apply GJ.and; exact rfl; intro hg) | (apply GJ.or; exact rfl; intro hg) | refine GJ.t omAuto ?_ | refine GJ.f omAuto ?_ | refine GJ.ft omAuto ?_ | refine GJ.ff omAuto ?_))
      rw [be4_at hl, decide_eq_true he]
      refine GJ.t rfl ?_
      repeat (first
        | (show _ ∧ _; exact ⟨rfl, rfl, rfl⟩)
        | refine wkT ?_
        | (show OpOk _ _ _ _ _ _ _; first | refine opB (fun b => ?_) | refine opA (fun a' c' hc1 hc2 => ?_))
        | (show GJ _ _ _ _ _ _ _; first | (apply GJ.and; exact rfl; intro hg) | (apply GJ.or; exact rfl; intro hg)))
      rw [e1]
      simp only [Int.toNat_zero, Nat.sub_zero]
      refine QOk.toStr rfl rfl rfl rfl hcut.rds ?_
      repeat (first
        | (show _ ∧ _; exact ⟨rfl, rfl, rfl⟩)
        | refine wkT ?_
        | (show OpOk _ _ _ _ _ _ _; first | refine opB (fun b => ?_) | refine opA (fun a' c' hc1 hc2 => ?_))
        | (show GJ _ _ _ _ _ _ _; first | (apply GJ.and; exact rfl; intro hg) | (apply GJ.or; exact rfl; intro hg)))
      refine Wk.backB ?_ Sup.auto (.refl _) hk
      simp
    · repeat (first
        | (show _ ∧ _; exact ⟨rfl, rfl, rfl⟩)
        | refine wkT ?_
        | (show OpOk _ _ _ _ _ _ _; first | refine opB (fun b => ?_) | refine opA (fun a' c' hc1 hc2 => ?_))
        | (show GJ _ _ _ _ _ _ _; first | (apply GJ.and; exact rfl; intro hg) | (apply GJ.or; exact rfl; intro hg)))
      rw [e1]
      simp only [Int.toNat_zero, Nat.sub_zero]
      refine sum_ok hcut.rds (by omega) ?_
      repeat (first
        | (show _ ∧ _; exact ⟨rfl, rfl, rfl⟩)
        | refine wkG ?_
        | (show OpOk _ _ _ _ _ _ _; first | refine opB (fun b => ?_) | refine opA (fun a' c' hc1 hc2 => ?_))
        | (show GJ _ _ _ _ _ _ _; first | (apply GJ.and; exact rfl; intro hg) | (apply GJ.or; exact rfl; intro hg) | refine GJ.t omAuto ?_ | refine GJ.f omAuto ?_ | refine GJ.ft omAuto ?_ | refine GJ.ff omAuto ?_))
      rw [be4_at hl, decide_eq_false he]
      refine GJ.t rfl ?_
      repeat (first
        | (show _ ∧ _; exact ⟨rfl, rfl, rfl⟩)
        | refine wkT ?_
        | (show OpOk _ _ _ _ _ _ _; first | refine opB (fun b => ?_) | refine opA (fun a' c' hc1 hc2 => ?_))
        | (show GJ _ _ _ _ _ _ _; first | (apply GJ.and; exact rfl; intro hg) | (apply GJ.or; exact rfl; intro hg)))
      exact Wk.back1 Sup.auto (.refl _) hk
theorem crcTurns_ok {n c n2 c2 n3 c3 : Nat} {a a2 a3 : Option Addr} {l m k : List UInt8} (hr : Bys ro a n c l) (hr2 : Bys ro a2 n2 c2 m) (hr3 : Bys ro a3 n3 c3 k) (hk : K (.bool true) ro own) : CallOk Try.prog 5 #[.slice a n c, .slice a2 n2 c2, .slice a3 n3 c3] ro own K := by
  have hl := hr.n
  have hl2 := hr2.n
  have hl3 := hr3.n
  refine CallOk.back ?_
  refine CallOk.intro (args := [_, _, _]) (rs := [_]) T_ok Try.func5 Try.call5 rfl rfl (by kernel_rfl) rfl rfl ?_
  repeat (first
    | (show _ ∧ _; exact ⟨rfl, rfl, rfl⟩)
    | refine wkG ?_
    | (show OpOk _ _ _ _ _ _ _; first | refine opB (fun b => ?_) | refine opA (fun a' c' hc1 hc2 => ?_))
    | (show GJ _ _ _ _ _ _ _; first | (apply GJ.and; exact rfl; intro hg) | (apply GJ.or; exact rfl; intro hg) | refine GJ.t omAuto ?_ | refine GJ.f omAuto ?_ | refine GJ.ft omAuto ?_ | refine GJ.ff omAuto ?_))
  refine checks_ok ?_
  repeat (first
    | (show _ ∧ _; exact ⟨rfl, rfl, rfl⟩)
    | refine wkG ?_
    | (show OpOk _ _ _ _ _ _ _; first | refine opB (fun b => ?_) | refine opA (fun a' c' hc1 hc2 => ?_))
    | (show GJ _ _ _ _ _ _ _; first | (apply GJ.and; exact rfl; intro hg) | (apply GJ.or; exact rfl; intro hg) | refine GJ.t omAuto ?_ | refine GJ.f omAuto ?_ | refine GJ.ft omAuto ?_ | refine GJ.ff omAuto ?_))
  refine Br.cases (fun hc => ?_) (fun hc => ?_)
  · repeat (first
      | (show _ ∧ _; exact ⟨rfl, rfl, rfl⟩)
      | refine wkG ?_
      | (show OpOk _ _ _ _ _ _ _; first | refine opB (fun b => ?_) | refine opA (fun a' c' hc1 hc2 => ?_))
      | (show GJ _ _ _ _ _ _ _; first | (apply GJ.and; exact rfl; intro hg) | (apply GJ.or; exact rfl; intro hg) | refine GJ.t omAuto ?_ | refine GJ.f omAuto ?_ | refine GJ.ft omAuto ?_ | refine GJ.ff omAuto ?_))
    exact Wk.back1 Sup.auto (.refl _) hk
  obtain rfl : n2 = n := by omega
  obtain rfl : n3 = n2 := by omega
  have hX : (xorL (xorL l m) k).length = n3 := by simp [xorL]; omega
  repeat (first
    | (show _ ∧ _; exact ⟨rfl, rfl, rfl⟩)
    | refine wkG ?_
    | (show OpOk _ _ _ _ _ _ _; first | refine opB (fun b => ?_) | refine opA (fun a' c' hc1 hc2 => ?_))
    | (show GJ _ _ _ _ _ _ _; first | (apply GJ.and; exact rfl; intro hg) | (apply GJ.or; exact rfl; intro hg) | refine GJ.t omAuto ?_ | refine GJ.f omAuto ?_ | refine GJ.ft omAuto ?_ | refine GJ.ff omAuto ?_))
  rename_i b0
  rw [tcells_none]
  refine LoopOk.at (ι := Nat × List Value) Keep.auto (fun (i, cs) => [(35, .int .i64 (i : Int))]) (fun (i, cs) => .sl (some ⟨b, 0, none⟩) n3 n3 5 1 cs :: .blk b0 45 (tcells none) :: own) (fun (i, cs) => i ≤ n3 ∧ cs = ((xorL (xorL l m) k).map u8).take i ++ List.replicate (n3 - i) (.int .u8 0)) (fun (i, cs) => n3 - i) (0, _) ?_ Sub.auto Sup.auto ?_
  · exact ⟨by omega, by simp⟩
  rintro ⟨i, cs⟩ ⟨i1, rfl⟩
  dsimp only [List.cons_append, List.nil_append]
  repeat (first
    | (show _ ∧ _; exact ⟨rfl, rfl, rfl⟩)
    | refine wkG ?_
    | (show OpOk _ _ _ _ _ _ _; first | refine opB (fun b => ?_) | refine opA (fun a' c' hc1 hc2 => ?_))
    | (show GJ _ _ _ _ _ _ _; first | (apply GJ.and; exact rfl; intro hg) | (apply GJ.or; exact rfl; intro hg) | refine GJ.t omAuto ?_ | refine GJ.f omAuto ?_ | refine GJ.ft omAuto ?_ | refine GJ.ff omAuto ?_))
  refine Br.cases (fun hd => ?_) (fun hd => ?_)
  · have hx1 := xorL_get (l := l) (m := m) (i := i) (by omega) (by omega)
    have hx2 := xorL_get (l := xorL l m) (m := k) (i := i) (by simp [xorL]; omega) (by omega)
    repeat (first
      | (show _ ∧ _; exact ⟨rfl, rfl, rfl⟩)
      | refine wkG ?_
      | (show OpOk _ _ _ _ _ _ _; first | refine opB (fun b => ?_) | refine opA (fun a' c' hc1 hc2 => ?_))
      | (show GJ _ _ _ _ _ _ _; first | (apply GJ.and; exact rfl; intro hg) | (apply GJ.or; exact rfl; intro hg) | refine GJ.t omAuto ?_ | refine GJ.f omAuto ?_ | refine GJ.ft omAuto ?_ | refine GJ.ff omAuto ?_))
    refine And.intro ⟨u8_range _, u8_range _⟩ ?_
    rw [Int.toNat_natCast, nxor2_nat, ← UInt8.toNat_xor]
    repeat (first
      | (show _ ∧ _; exact ⟨rfl, rfl, rfl⟩)
      | refine wkG ?_
      | (show OpOk _ _ _ _ _ _ _; first | refine opB (fun b => ?_) | refine opA (fun a' c' hc1 hc2 => ?_))
      | (show GJ _ _ _ _ _ _ _; first | (apply GJ.and; exact rfl; intro hg) | (apply GJ.or; exact rfl; intro hg) | refine GJ.t omAuto ?_ | refine GJ.f omAuto ?_ | refine GJ.ft omAuto ?_ | refine GJ.ff omAuto ?_))
    refine And.intro ⟨u8_range _, u8_range _⟩ ?_
    rw [nxor2_nat, ← UInt8.toNat_xor]
    repeat (first
      | (show _ ∧ _; exact ⟨rfl, rfl, rfl⟩)
      | refine wkG ?_
      | (show OpOk _ _ _ _ _ _ _; first | refine opB (fun b => ?_) | refine opA (fun a' c' hc1 hc2 => ?_))
      | (show GJ _ _ _ _ _ _ _; first | (apply GJ.and; exact rfl; intro hg) | (apply GJ.or; exact rfl; intro hg) | refine GJ.t omAuto ?_ | refine GJ.f omAuto ?_ | refine GJ.ft omAuto ?_ | refine GJ.ff omAuto ?_))
    rw [Int.toNat_natCast]
    refine OpOk.storeSl rfl rfl rfl rfl (by simp [hX]; omega) ?_
    repeat (first
      | (show _ ∧ _; exact ⟨rfl, rfl, rfl⟩)
      | refine wkG ?_
      | (show OpOk _ _ _ _ _ _ _; first | refine opB (fun b => ?_) | refine opA (fun a' c' hc1 hc2 => ?_))
      | (show GJ _ _ _ _ _ _ _; first | (apply GJ.and; exact rfl; intro hg) | (apply GJ.or; exact rfl; intro hg) | refine GJ.t omAuto ?_ | refine GJ.f omAuto ?_ | refine GJ.ft omAuto ?_ | refine GJ.ff omAuto ?_))
    refine Wk.id ⟨(i + 1, _), ⟨rfl, ?_⟩, ?_, Sub.auto, Sup.auto⟩
    all_goals try dsimp only
    · refine ⟨by omega, fill_set (v := u8 (l[i]! ^^^ m[i]! ^^^ k[i]!)) (by simp [hX]) (by omega) ?_⟩
      rw [List.getElem?_map, hx2, List.getElem!_eq_getElem?_getD, hx1]
      rfl
    · omega
  · obtain rfl : i = n3 := by omega
    rw [List.take_of_length_le (by rw [List.length_map]; omega), Nat.sub_self, List.replicate_zero, List.append_nil]
    repeat (first
      | (show _ ∧ _; exact ⟨rfl, rfl, rfl⟩)
      | refine wkG ?_
      | (show OpOk _ _ _ _ _ _ _; first | refine opB (fun b => ?_) | refine opA (fun a' c' hc1 hc2 => ?_))
      | (show GJ _ _ _ _ _ _ _; first | (apply GJ.and; exact rfl; intro hg) | (apply GJ.or; exact rfl; intro hg) | refine GJ.t omAuto ?_ | refine GJ.f omAuto ?_ | refine GJ.ft omAuto ?_ | refine GJ.ff omAuto ?_))
    refine CallOk.perm (Take.perm (.miss _ (.hit _ _))) ?_
    have ht := crcOf_turns (l := l) (m := m) (k := k) (by omega) (by omega)
    have b1 := crcOf_lt l
    have b2 := crcOf_lt m
    have b3 := crcOf_lt k
    have b4 := crcOf_lt (xorL (xorL l m) k)
    refine tof_ok (o := none) hr.rds (by omega) (by simp) ?_
    generalize crcOf l = x1 at ht b1
    repeat (first
      | (show _ ∧ _; exact ⟨rfl, rfl, rfl⟩)
      | refine wkG ?_
      | (show OpOk _ _ _ _ _ _ _; first | refine opB (fun b => ?_) | refine opA (fun a' c' hc1 hc2 => ?_))
      | (show GJ _ _ _ _ _ _ _; first | (apply GJ.and; exact rfl; intro hg) | (apply GJ.or; exact rfl; intro hg) | refine GJ.t omAuto ?_ | refine GJ.f omAuto ?_ | refine GJ.ft omAuto ?_ | refine GJ.ff omAuto ?_))
    refine tof_ok (l := m) hr2.rds (by omega) (by simp; omega) ?_
    generalize crcOf m = x2 at ht b2
    repeat (first
      | (show _ ∧ _; exact ⟨rfl, rfl, rfl⟩)
      | refine wkG ?_
      | (show OpOk _ _ _ _ _ _ _; first | refine opB (fun b => ?_) | refine opA (fun a' c' hc1 hc2 => ?_))
      | (show GJ _ _ _ _ _ _ _; first | (apply GJ.and; exact rfl; intro hg) | (apply GJ.or; exact rfl; intro hg) | refine GJ.t omAuto ?_ | refine GJ.f omAuto ?_ | refine GJ.ft omAuto ?_ | refine GJ.ff omAuto ?_))
    rw [nxor2_nat]
    have b5 : x1 ^^^ x2 < 4294967296 := Nat.xor_lt_two_pow (n := 32) b1 b2
    generalize x1 ^^^ x2 = x3 at ht b5
    refine tof_ok (l := k) hr3.rds (by omega) (by simp; omega) ?_
    generalize crcOf k = x4 at ht b3
    repeat (first
      | (show _ ∧ _; exact ⟨rfl, rfl, rfl⟩)
      | refine wkG ?_
      | (show OpOk _ _ _ _ _ _ _; first | refine opB (fun b => ?_) | refine opA (fun a' c' hc1 hc2 => ?_))
      | (show GJ _ _ _ _ _ _ _; first | (apply GJ.and; exact rfl; intro hg) | (apply GJ.or; exact rfl; intro hg) | refine GJ.t omAuto ?_ | refine GJ.f omAuto ?_ | refine GJ.ft omAuto ?_ | refine GJ.ff omAuto ?_))
    rw [nxor2_nat]
    refine tof_ok (l := xorL (xorL l m) k) (Rds.hasSl (by omega) (by unfold maxLen; omega) (by rw [List.length_map]; omega)) (by omega) (by simp; omega) ?_
    generalize crcOf (xorL (xorL l m) k) = x5 at ht b4
    repeat (first
      | (show _ ∧ _; exact ⟨rfl, rfl, rfl⟩)
      | refine wkG ?_
      | (show OpOk _ _ _ _ _ _ _; first | refine opB (fun b => ?_) | refine opA (fun a' c' hc1 hc2 => ?_))
      | (show GJ _ _ _ _ _ _ _; first | (apply GJ.and; exact rfl; intro hg) | (apply GJ.or; exact rfl; intro hg) | refine GJ.t omAuto ?_ | refine GJ.f omAuto ?_ | refine GJ.ft omAuto ?_ | refine GJ.ff omAuto ?_))
    refine Wk.backB ?_ Sup.auto (.refl _) hk
    rw [ht]
    simp
theorem crcSeals_ok {n c : Nat} {a : Option Addr} {l : List UInt8} {at1 by1 : Int} (hr : Bys ro a n c l) (hby : 0 ≤ by1 ∧ by1 < 256) (hk : K (.bool true) ro own) : CallOk Try.prog 6 #[.slice a n c, .int .i64 at1, .int .u8 by1] ro own K := by
  have hl := hr.n
  refine CallOk.back ?_
  refine CallOk.intro (args := [_, _, _]) (rs := [_]) T_ok Try.func6 Try.call6 rfl rfl (by kernel_rfl) rfl rfl ?_
  repeat (first
    | (show _ ∧ _; exact ⟨rfl, rfl, rfl⟩)
    | refine wkG ?_
    | (show OpOk _ _ _ _ _ _ _; first | refine opB (fun b => ?_) | refine opA (fun a' c' hc1 hc2 => ?_))
    | (show GJ _ _ _ _ _ _ _; first | (apply GJ.and; exact rfl; intro hg) | (apply GJ.or; exact rfl; intro hg) | refine GJ.t omAuto ?_ | refine GJ.f omAuto ?_ | refine GJ.ft omAuto ?_ | refine GJ.ff omAuto ?_))
  refine checks_ok ?_
  repeat (first
    | (show _ ∧ _; exact ⟨rfl, rfl, rfl⟩)
    | refine wkG ?_
    | (show OpOk _ _ _ _ _ _ _; first | refine opB (fun b => ?_) | refine opA (fun a' c' hc1 hc2 => ?_))
    | (show GJ _ _ _ _ _ _ _; first | (apply GJ.and; exact rfl; intro hg) | (apply GJ.or; exact rfl; intro hg) | refine GJ.t omAuto ?_ | refine GJ.f omAuto ?_ | refine GJ.ft omAuto ?_ | refine GJ.ff omAuto ?_))
  refine Br.cases (fun hc => ?_) (fun hc => ?_)
  · repeat (first
      | (show _ ∧ _; exact ⟨rfl, rfl, rfl⟩)
      | refine wkG ?_
      | (show OpOk _ _ _ _ _ _ _; first | refine opB (fun b => ?_) | refine opA (fun a' c' hc1 hc2 => ?_))
      | (show GJ _ _ _ _ _ _ _; first | (apply GJ.and; exact rfl; intro hg) | (apply GJ.or; exact rfl; intro hg) | refine GJ.t omAuto ?_ | refine GJ.f omAuto ?_ | refine GJ.ft omAuto ?_ | refine GJ.ff omAuto ?_))
    exact Wk.back1 Sup.auto (.refl _) hk
  repeat (first
    | (show _ ∧ _; exact ⟨rfl, rfl, rfl⟩)
    | refine wkG ?_
    | (show OpOk _ _ _ _ _ _ _; first | refine opB (fun b => ?_) | refine opA (fun a' c' hc1 hc2 => ?_))
    | (show GJ _ _ _ _ _ _ _; first | (apply GJ.and; exact rfl; intro hg) | (apply GJ.or; exact rfl; intro hg) | refine GJ.t omAuto ?_ | refine GJ.f omAuto ?_ | refine GJ.ft omAuto ?_ | refine GJ.ff omAuto ?_))
  rw [tcells_none]
  refine seal_ok (o := none) hr.rds (by omega) (by simp) (fun a1 n1 c1 h1 h2 h3 => ?_)
  repeat (first
    | (show _ ∧ _; exact ⟨rfl, rfl, rfl⟩)
    | refine wkG ?_
    | (show OpOk _ _ _ _ _ _ _; first | refine opB (fun b => ?_) | refine opA (fun a' c' hc1 hc2 => ?_))
    | (show GJ _ _ _ _ _ _ _; first | (apply GJ.and; exact rfl; intro hg) | (apply GJ.or; exact rfl; intro hg) | refine GJ.t omAuto ?_ | refine GJ.f omAuto ?_ | refine GJ.ft omAuto ?_ | refine GJ.ff omAuto ?_))
  refine CallOk.perm (Take.perm (.miss _ (.hit _ _))) ?_
  have hlen : (l ++ be4 (crcOf l)).length = n1 := by rw [List.length_append, be4_len]; omega
  have htk : (l ++ be4 (crcOf l)).take n = l := List.take_left' hl
  refine open_ok (m := n) (l := l ++ be4 (crcOf l)) (o := some (0 + n)) (Rds.hasSl (by omega) h3 (by rw [List.length_map]; omega)) (by omega) (by omega) (by simp; omega) (fun he a2 c2 h4 h5 => ?_) (fun he => absurd (by rw [htk]) he)
  rw [htk]
  repeat (first
    | (show _ ∧ _; exact ⟨rfl, rfl, rfl⟩)
    | refine wkG ?_
    | (show OpOk _ _ _ _ _ _ _; first | refine opB (fun b => ?_) | refine opA (fun a' c' hc1 hc2 => ?_))
    | (show GJ _ _ _ _ _ _ _; first | (apply GJ.and; exact rfl; intro hg) | (apply GJ.or; exact rfl; intro hg) | refine GJ.t omAuto ?_ | refine GJ.f omAuto ?_ | refine GJ.ft omAuto ?_ | refine GJ.ff omAuto ?_))
  refine Br.f (by simp; omega) ?_
  repeat (first
    | (show _ ∧ _; exact ⟨rfl, rfl, rfl⟩)
    | refine wkG ?_
    | (show OpOk _ _ _ _ _ _ _; first | refine opB (fun b => ?_) | refine opA (fun a' c' hc1 hc2 => ?_))
    | (show GJ _ _ _ _ _ _ _; first | (apply GJ.and; exact rfl; intro hg) | (apply GJ.or; exact rfl; intro hg) | refine GJ.t omAuto ?_ | refine GJ.f omAuto ?_ | refine GJ.ft omAuto ?_ | refine GJ.ff omAuto ?_))
  refine Br.cases (fun hd => ?_) (fun hd => ?_)
  · repeat (first
      | (show _ ∧ _; exact ⟨rfl, rfl, rfl⟩)
      | refine wkG ?_
      | (show OpOk _ _ _ _ _ _ _; first | refine opB (fun b => ?_) | refine opA (fun a' c' hc1 hc2 => ?_))
      | (show GJ _ _ _ _ _ _ _; first | (apply GJ.and; exact rfl; intro hg) | (apply GJ.or; exact rfl; intro hg) | refine GJ.t omAuto ?_ | refine GJ.f omAuto ?_ | refine GJ.ft omAuto ?_ | refine GJ.ff omAuto ?_))
    exact Wk.back1 Sup.auto (.refl _) hk
  · obtain ⟨e, rfl⟩ : ∃ e : UInt8, by1 = (e.toNat : Int) := ⟨UInt8.ofNat by1.toNat, by simp; omega⟩
    have hx : (l ++ be4 (crcOf l))[at1.toNat]! ^^^ e ≠ (l ++ be4 (crcOf l))[at1.toNat]! := by
      intro h
      have h2 := congrArg ((l ++ be4 (crcOf l))[at1.toNat]! ^^^ ·) h
      simp only [← UInt8.xor_assoc, UInt8.xor_self, UInt8.zero_xor] at h2
      subst h2
      simp at hd
    have hno := sealed_set (d := (l ++ be4 (crcOf l))[at1.toNat]! ^^^ e) hl (show at1.toNat < n + 4 by omega) hx
    repeat (first
      | (show _ ∧ _; exact ⟨rfl, rfl, rfl⟩)
      | refine wkG ?_
      | (show OpOk _ _ _ _ _ _ _; first | refine opB (fun b => ?_) | refine opA (fun a' c' hc1 hc2 => ?_))
      | (show GJ _ _ _ _ _ _ _; first | (apply GJ.and; exact rfl; intro hg) | (apply GJ.or; exact rfl; intro hg) | refine GJ.t omAuto ?_ | refine GJ.f omAuto ?_ | refine GJ.ft omAuto ?_ | refine GJ.ff omAuto ?_))
    refine And.intro ⟨u8_range _, u8_range _⟩ ?_
    rw [nxor2_nat, ← UInt8.toNat_xor]
    repeat (first
      | (show _ ∧ _; exact ⟨rfl, rfl, rfl⟩)
      | refine wkG ?_
      | (show OpOk _ _ _ _ _ _ _; first | refine opB (fun b => ?_) | refine opA (fun a' c' hc1 hc2 => ?_))
      | (show GJ _ _ _ _ _ _ _; first | (apply GJ.and; exact rfl; intro hg) | (apply GJ.or; exact rfl; intro hg) | refine GJ.t omAuto ?_ | refine GJ.f omAuto ?_ | refine GJ.ft omAuto ?_ | refine GJ.ff omAuto ?_))
    generalize (l ++ be4 (crcOf l))[at1.toNat]! ^^^ e = d at hno
    refine OpOk.storeSl rfl rfl rfl rfl (by rw [List.length_map]; omega) ?_
    have hset : ((l ++ be4 (crcOf l)).map u8).set at1.toNat (.int .u8 d.toNat) = ((l ++ be4 (crcOf l)).set at1.toNat d).map u8 := by rw [List.map_set]; rfl
    rw [hset]
    have hlen2 : ((l ++ be4 (crcOf l)).set at1.toNat d).length = n1 := by rw [List.length_set]; exact hlen
    repeat (first
      | (show _ ∧ _; exact ⟨rfl, rfl, rfl⟩)
      | refine wkG ?_
      | (show OpOk _ _ _ _ _ _ _; first | refine opB (fun b => ?_) | refine opA (fun a' c' hc1 hc2 => ?_))
      | (show GJ _ _ _ _ _ _ _; first | (apply GJ.and; exact rfl; intro hg) | (apply GJ.or; exact rfl; intro hg) | refine GJ.t omAuto ?_ | refine GJ.f omAuto ?_ | refine GJ.ft omAuto ?_ | refine GJ.ff omAuto ?_))
    refine CallOk.perm (Take.perm (.miss _ (.hit _ _))) ?_
    refine open_ok (m := n) (l := (l ++ be4 (crcOf l)).set at1.toNat d) (o := some (0 + n + n)) (Rds.hasSl (by omega) h3 (by rw [List.length_map]; omega)) (by omega) (by omega) (by simp; omega) (fun he => absurd he hno) (fun he => ?_)
    repeat (first
      | (show _ ∧ _; exact ⟨rfl, rfl, rfl⟩)
      | refine wkG ?_
      | (show OpOk _ _ _ _ _ _ _; first | refine opB (fun b => ?_) | refine opA (fun a' c' hc1 hc2 => ?_))
      | (show GJ _ _ _ _ _ _ _; first | (apply GJ.and; exact rfl; intro hg) | (apply GJ.or; exact rfl; intro hg) | refine GJ.t omAuto ?_ | refine GJ.f omAuto ?_ | refine GJ.ft omAuto ?_ | refine GJ.ff omAuto ?_))
    refine Wk.backB ?_ Sup.auto (.refl _) hk
    rfl
end
end Go.Proofs.Ytpjiaafkcojddaa
