/- Contracts of the reference parser: counted often. -/
import Derived.Test.YtniofdklhlbphaaDoorRfB
namespace Go.Proofs.YtniofdklhlbphaaDoor
open Go Go.E
set_option linter.unusedVariables false
set_option linter.unusedSimpArgs false
set_option maxRecDepth 10000
theorem start_no : ∀ c : Nat, c < 256 → startB c = true → c ≠ 42 ∧ c ≠ 43 ∧ c ≠ 63 ∧ c ≠ 123 := by decide +kernel
/-- What tells no count: nothing, or a sign that opens something else. -/
def NoCount (s : List UInt8) : Prop := s = [] ∨ ∃ x m, s = x :: m ∧ startB x.toNat = true
section
variable {ro : Ro} {own r : Chs} {K : Value → Ro → Chs → Prop} {g : Chunk → Chs}
theorem counted_none {s : List UInt8} (h : NoCount s) (hl : s.length ≤ 1000) (hk : K (.int .i64 0) ro own) : CallOk Tryd.prog 82 #[str s] ro own K := by
  rcases h with rfl | ⟨x, m, rfl, hx⟩
  · refine CallOk.intro (args := [_]) (rs := [_]) T_ok Tryd.func82 Tryd.call82 rfl rfl (by kernel_rfl) rfl rfl ?_
    repeat (first
      | (show _ ∧ _; exact ⟨rfl, rfl, rfl⟩)
      | refine wkP ?_
      | (show OpOk _ _ _ _ _ _ _; first | refine opB (fun b => ?_) | refine opA (fun a' c' hc1 hc2 => ?_))
      | (show GJ _ _ _ _ _ _ _; first | (apply GJ.and; exact rfl; intro hg) | (apply GJ.or; exact rfl; intro hg)))
    exact Wk.outS Sup.auto (.refl _) hk
  · obtain ⟨h1, h2, h3, h4⟩ := start_no _ x.toNat_lt hx
    rw [List.length_cons] at hl
    refine CallOk.intro (args := [_]) (rs := [_]) T_ok Tryd.func82 Tryd.call82 rfl rfl (by kernel_rfl) rfl rfl ?_
    repeat (first
      | (show _ ∧ _; exact ⟨rfl, rfl, rfl⟩)
      | refine wkP ?_
      | (show OpOk _ _ _ _ _ _ _; first | refine opB (fun b => ?_) | refine opA (fun a' c' hc1 hc2 => ?_))
      | (show GJ _ _ _ _ _ _ _; first | (apply GJ.and; exact rfl; intro hg) | (apply GJ.or; exact rfl; intro hg)))
    refine Br.f (List.cons_ne_nil _ _) ?_
    repeat (first
      | (show _ ∧ _; exact ⟨rfl, rfl, rfl⟩)
      | refine wkP ?_
      | (show OpOk _ _ _ _ _ _ _; first | refine opB (fun b => ?_) | refine opA (fun a' c' hc1 hc2 => ?_))
      | (show GJ _ _ _ _ _ _ _; first | (apply GJ.and; exact rfl; intro hg) | (apply GJ.or; exact rfl; intro hg)))
    have hb : (0 : Int) ≤ 0 ∧ (0 : Int) < ((x :: m).length : Int) := ⟨by omega, by rw [List.length_cons]; omega⟩
    refine ⟨hb, ?_⟩
    simp only [get0]
    repeat (first
      | (show _ ∧ _; exact ⟨rfl, rfl, rfl⟩)
      | refine wkP ?_
      | (show OpOk _ _ _ _ _ _ _; first | refine opB (fun b => ?_) | refine opA (fun a' c' hc1 hc2 => ?_))
      | (show GJ _ _ _ _ _ _ _; first | (apply GJ.and; exact rfl; intro hg) | (apply GJ.or; exact rfl; intro hg)))
    refine Br.f (by simp only [get0, Bool.or_eq_true, decide_eq_true_eq]; omega) ?_
    repeat (first
      | (show _ ∧ _; exact ⟨rfl, rfl, rfl⟩)
      | refine wkP ?_
      | (show OpOk _ _ _ _ _ _ _; first | refine opB (fun b => ?_) | refine opA (fun a' c' hc1 hc2 => ?_))
      | (show GJ _ _ _ _ _ _ _; first | (apply GJ.and; exact rfl; intro hg) | (apply GJ.or; exact rfl; intro hg)))
    refine Br.t (fun h => h4 (by rw [get0] at h; omega)) ?_
    repeat (first
      | (show _ ∧ _; exact ⟨rfl, rfl, rfl⟩)
      | refine wkP ?_
      | (show OpOk _ _ _ _ _ _ _; first | refine opB (fun b => ?_) | refine opA (fun a' c' hc1 hc2 => ?_))
      | (show GJ _ _ _ _ _ _ _; first | (apply GJ.and; exact rfl; intro hg) | (apply GJ.or; exact rfl; intro hg)))
    exact Wk.outS Sup.auto (.refl _) hk
theorem counted_sign {x : UInt8} (h : x.toNat = 42 ∨ x.toNat = 43 ∨ x.toNat = 63) (R : List UInt8) (hl : R.length ≤ 900) (hk : K (.int .i64 1) ro own) : CallOk Tryd.prog 82 #[str (x :: R)] ro own K := by
  refine CallOk.intro (args := [_]) (rs := [_]) T_ok Tryd.func82 Tryd.call82 rfl rfl (by kernel_rfl) rfl rfl ?_
  repeat (first
    | (show _ ∧ _; exact ⟨rfl, rfl, rfl⟩)
    | refine wkP ?_
    | (show OpOk _ _ _ _ _ _ _; first | refine opB (fun b => ?_) | refine opA (fun a' c' hc1 hc2 => ?_))
    | (show GJ _ _ _ _ _ _ _; first | (apply GJ.and; exact rfl; intro hg) | (apply GJ.or; exact rfl; intro hg)))
  refine Br.f (List.cons_ne_nil _ _) ?_
  repeat (first
    | (show _ ∧ _; exact ⟨rfl, rfl, rfl⟩)
    | refine wkP ?_
    | (show OpOk _ _ _ _ _ _ _; first | refine opB (fun b => ?_) | refine opA (fun a' c' hc1 hc2 => ?_))
    | (show GJ _ _ _ _ _ _ _; first | (apply GJ.and; exact rfl; intro hg) | (apply GJ.or; exact rfl; intro hg)))
  refine ⟨⟨by omega, by rw [List.length_cons]; omega⟩, ?_⟩
  simp only [get0]
  rcases h with h | h | h
  · repeat (first
      | (show _ ∧ _; exact ⟨rfl, rfl, rfl⟩)
      | refine wkP ?_
      | (show OpOk _ _ _ _ _ _ _; first | refine opB (fun b => ?_) | refine opA (fun a' c' hc1 hc2 => ?_))
      | (show GJ _ _ _ _ _ _ _; first | (apply GJ.and; exact rfl; intro hg) | (apply GJ.or; exact rfl; intro hg)))
    exact Wk.outS Sup.auto (.refl _) hk
  · repeat (first
      | (show _ ∧ _; exact ⟨rfl, rfl, rfl⟩)
      | refine wkP ?_
      | (show OpOk _ _ _ _ _ _ _; first | refine opB (fun b => ?_) | refine opA (fun a' c' hc1 hc2 => ?_))
      | (show GJ _ _ _ _ _ _ _; first | (apply GJ.and; exact rfl; intro hg) | (apply GJ.or; exact rfl; intro hg)))
    refine ⟨⟨by omega, by rw [List.length_cons]; omega⟩, ?_⟩
    simp only [get0]
    repeat (first
      | (show _ ∧ _; exact ⟨rfl, rfl, rfl⟩)
      | refine wkP ?_
      | (show OpOk _ _ _ _ _ _ _; first | refine opB (fun b => ?_) | refine opA (fun a' c' hc1 hc2 => ?_))
      | (show GJ _ _ _ _ _ _ _; first | (apply GJ.and; exact rfl; intro hg) | (apply GJ.or; exact rfl; intro hg)))
    exact Wk.outS Sup.auto (.refl _) hk
  · repeat (first
      | (show _ ∧ _; exact ⟨rfl, rfl, rfl⟩)
      | refine wkP ?_
      | (show OpOk _ _ _ _ _ _ _; first | refine opB (fun b => ?_) | refine opA (fun a' c' hc1 hc2 => ?_))
      | (show GJ _ _ _ _ _ _ _; first | (apply GJ.and; exact rfl; intro hg) | (apply GJ.or; exact rfl; intro hg)))
    refine ⟨⟨by omega, by rw [List.length_cons]; omega⟩, ?_⟩
    simp only [get0]
    repeat (first
      | (show _ ∧ _; exact ⟨rfl, rfl, rfl⟩)
      | refine wkP ?_
      | (show OpOk _ _ _ _ _ _ _; first | refine opB (fun b => ?_) | refine opA (fun a' c' hc1 hc2 => ?_))
      | (show GJ _ _ _ _ _ _ _; first | (apply GJ.and; exact rfl; intro hg) | (apply GJ.or; exact rfl; intro hg)))
    refine ⟨⟨by omega, by rw [List.length_cons]; omega⟩, ?_⟩
    simp only [get0]
    repeat (first
      | (show _ ∧ _; exact ⟨rfl, rfl, rfl⟩)
      | refine wkP ?_
      | (show OpOk _ _ _ _ _ _ _; first | refine opB (fun b => ?_) | refine opA (fun a' c' hc1 hc2 => ?_))
      | (show GJ _ _ _ _ _ _ _; first | (apply GJ.and; exact rfl; intro hg) | (apply GJ.or; exact rfl; intro hg)))
    exact Wk.outS Sup.auto (.refl _) hk
theorem counted_rep {m : List UInt8} {a b : Int} (h : DRep m a b) (R : List UInt8) (hl : m.length + R.length ≤ 900) (hk : K (.int .i64 (m.length : Int)) ro own) : CallOk Tryd.prog 82 #[str (m ++ R)] ro own K := by
  rcases h.form with ⟨rfl, _, _⟩ | ⟨rfl, _, _⟩ | ⟨rfl, _, _⟩ | ⟨d, t, rfl, hc⟩
  · exact counted_sign (.inl rfl) R (by rw [List.length_singleton] at hl; omega) hk
  · exact counted_sign (.inr (.inl rfl)) R (by rw [List.length_singleton] at hl; omega) hk
  · exact counted_sign (.inr (.inr rfl)) R (by rw [List.length_singleton] at hl; omega) hk
  · have hno := hc.no125
    obtain ⟨w, hw⟩ : ∃ w, w = d ++ t := ⟨_, rfl⟩
    rw [← hw] at hno
    have e1 : (123 :: (d ++ (t ++ [125])) ++ R : List UInt8) = 123 :: (w ++ 125 :: R) := by rw [hw]; simp
    have e2 : (123 :: (d ++ (t ++ [125])) : List UInt8).length = w.length + 2 := by rw [hw]; simp; omega
    rw [e2] at hl hk
    rw [e1]
    obtain ⟨T, hT⟩ : ∃ T, T = 123 :: (w ++ 125 :: R) := ⟨_, rfl⟩
    have hTl : T.length = w.length + 2 + R.length := by rw [hT]; simp; omega
    have g0 : T[Int.toNat 0]! = 123 := by rw [hT]; rfl
    have hT0 : T ≠ [] := by rw [hT]; exact List.cons_ne_nil _ _
    rw [← hT]
    refine CallOk.intro (args := [_]) (rs := [_]) T_ok Tryd.func82 Tryd.call82 rfl rfl (by kernel_rfl) rfl rfl ?_
    repeat (first
      | (show _ ∧ _; exact ⟨rfl, rfl, rfl⟩)
      | refine wkP ?_
      | (show OpOk _ _ _ _ _ _ _; first | refine opB (fun b => ?_) | refine opA (fun a' c' hc1 hc2 => ?_))
      | (show GJ _ _ _ _ _ _ _; first | (apply GJ.and; exact rfl; intro hg) | (apply GJ.or; exact rfl; intro hg)))
    rw [g0]
    repeat (first
      | (show _ ∧ _; exact ⟨rfl, rfl, rfl⟩)
      | refine wkP ?_
      | (show OpOk _ _ _ _ _ _ _; first | refine opB (fun b => ?_) | refine opA (fun a' c' hc1 hc2 => ?_))
      | (show GJ _ _ _ _ _ _ _; first | (apply GJ.and; exact rfl; intro hg) | (apply GJ.or; exact rfl; intro hg)))
    rw [g0]
    repeat (first
      | (show _ ∧ _; exact ⟨rfl, rfl, rfl⟩)
      | refine wkP ?_
      | (show OpOk _ _ _ _ _ _ _; first | refine opB (fun b => ?_) | refine opA (fun a' c' hc1 hc2 => ?_))
      | (show GJ _ _ _ _ _ _ _; first | (apply GJ.and; exact rfl; intro hg) | (apply GJ.or; exact rfl; intro hg)))
    refine LoopOk.at (ι := Nat × Int) Keep.auto (fun (k, z) => [(3, .int .i64 z)]) (fun (k, z) => own) (fun (k, z) => k ≤ w.length ∧ z = 1 + (k : Int)) (fun (k, z) => w.length - k) (0, 1) ?_ Sub.auto Sup.auto ?_
    · exact ⟨Nat.zero_le _, rfl⟩
    rintro ⟨k, z⟩ ⟨k1, k2⟩
    dsimp only [List.cons_append, List.nil_append] at k1 k2 ⊢
    by_cases hk1 : k < w.length
    · have hD : T.drop z.toNat = w[k] :: ((w.drop (k + 1)) ++ 125 :: R) := by
        rw [hT, show z.toNat = k + 1 by omega, List.drop_succ_cons, List.drop_append_of_le_length (by omega), List.drop_eq_getElem_cons hk1]; rfl
      obtain ⟨g1, g2⟩ := get_drop hD
      have hx : (w[k]).toNat ≠ 125 := u8_ne (hno _ (List.getElem_mem hk1))
      generalize w[k] = x at g2 hx
      repeat (first
        | (show _ ∧ _; exact ⟨rfl, rfl, rfl⟩)
        | refine wkP ?_
        | (show OpOk _ _ _ _ _ _ _; first | refine opB (fun b => ?_) | refine opA (fun a' c' hc1 hc2 => ?_))
        | (show GJ _ _ _ _ _ _ _; first | (apply GJ.and; exact rfl; intro hg) | (apply GJ.or; exact rfl; intro hg)))
      rw [g2]
      repeat (first
        | (show _ ∧ _; exact ⟨rfl, rfl, rfl⟩)
        | refine wkP ?_
        | (show OpOk _ _ _ _ _ _ _; first | refine opB (fun b => ?_) | refine opA (fun a' c' hc1 hc2 => ?_))
        | (show GJ _ _ _ _ _ _ _; first | (apply GJ.and; exact rfl; intro hg) | (apply GJ.or; exact rfl; intro hg)))
      refine Wk.id ⟨(k + 1, z + 1), ⟨rfl, ?_⟩, ?_, Sub.auto, Sup.auto⟩
      all_goals try dsimp only
      · exact ⟨by omega, by omega⟩
      · omega
    · obtain rfl : k = w.length := by omega
      have hD : T.drop z.toNat = 125 :: R := by
        rw [hT, show z.toNat = w.length + 1 by omega, List.drop_succ_cons, List.drop_left]
      obtain ⟨g1, g2⟩ := get_drop hD
      repeat (first
        | (show _ ∧ _; exact ⟨rfl, rfl, rfl⟩)
        | refine wkP ?_
        | (show OpOk _ _ _ _ _ _ _; first | refine opB (fun b => ?_) | refine opA (fun a' c' hc1 hc2 => ?_))
        | (show GJ _ _ _ _ _ _ _; first | (apply GJ.and; exact rfl; intro hg) | (apply GJ.or; exact rfl; intro hg)))
      rw [g2]
      repeat (first
        | (show _ ∧ _; exact ⟨rfl, rfl, rfl⟩)
        | refine wkP ?_
        | (show OpOk _ _ _ _ _ _ _; first | refine opB (fun b => ?_) | refine opA (fun a' c' hc1 hc2 => ?_))
        | (show GJ _ _ _ _ _ _ _; first | (apply GJ.and; exact rfl; intro hg) | (apply GJ.or; exact rfl; intro hg)))
      exact Wk.outV Sup.auto hk (congrArg (Value.int .i64) (by omega))
set_option maxHeartbeats 4000000 in
theorem often_ok {m : List UInt8} {a b : Int} (h : DRep m a b) (hl : m.length ≤ 900) (hk : K (.tuple #[.int .i64 a, .int .i64 b]) ro own) : CallOk Tryd.prog 83 #[str m] ro own K := by
  rcases h.form with ⟨rfl, rfl, rfl⟩ | ⟨rfl, rfl, rfl⟩ | ⟨rfl, rfl, rfl⟩ | ⟨d, t, rfl, hc⟩
  · refine CallOk.intro (args := [_]) (rs := [_, _]) T_ok Tryd.func83 Tryd.call83 rfl rfl (by kernel_rfl) rfl rfl ?_
    repeat (first
      | (show _ ∧ _; exact ⟨rfl, rfl, rfl⟩)
      | refine wkP ?_
      | (show OpOk _ _ _ _ _ _ _; first | refine opB (fun b => ?_) | refine opA (fun a' c' hc1 hc2 => ?_))
      | (show GJ _ _ _ _ _ _ _; first | (apply GJ.and; exact rfl; intro hg) | (apply GJ.or; exact rfl; intro hg)))
    exact Wk.outS Sup.auto (.refl _) hk
  · refine CallOk.intro (args := [_]) (rs := [_, _]) T_ok Tryd.func83 Tryd.call83 rfl rfl (by kernel_rfl) rfl rfl ?_
    repeat (first
      | (show _ ∧ _; exact ⟨rfl, rfl, rfl⟩)
      | refine wkP ?_
      | (show OpOk _ _ _ _ _ _ _; first | refine opB (fun b => ?_) | refine opA (fun a' c' hc1 hc2 => ?_))
      | (show GJ _ _ _ _ _ _ _; first | (apply GJ.and; exact rfl; intro hg) | (apply GJ.or; exact rfl; intro hg)))
    exact Wk.outS Sup.auto (.refl _) hk
  · refine CallOk.intro (args := [_]) (rs := [_, _]) T_ok Tryd.func83 Tryd.call83 rfl rfl (by kernel_rfl) rfl rfl ?_
    repeat (first
      | (show _ ∧ _; exact ⟨rfl, rfl, rfl⟩)
      | refine wkP ?_
      | (show OpOk _ _ _ _ _ _ _; first | refine opB (fun b => ?_) | refine opA (fun a' c' hc1 hc2 => ?_))
      | (show GJ _ _ _ _ _ _ _; first | (apply GJ.and; exact rfl; intro hg) | (apply GJ.or; exact rfl; intro hg)))
    exact Wk.outS Sup.auto (.refl _) hk
  · have hdv := hc.le
    have hda := hc.low
    have hdd := hc.digs
    obtain ⟨mm, hmt, hmd, hmv⟩ : ∃ mm : List UInt8, (t = [] ∧ mm = [] ∨ t = 44 :: mm) ∧ (∀ c ∈ mm, isDig c.toNat = true) ∧ valOf mm ≤ 256 := by
      rcases hc.high with ⟨rfl, _⟩ | ⟨rfl, _⟩ | ⟨m, _, rfl, h1, h2, _⟩
      · exact ⟨[], .inl ⟨rfl, rfl⟩, by simp, by decide⟩
      · exact ⟨[], .inr rfl, by simp, by decide⟩
      · exact ⟨m, .inr rfl, h1, h2⟩
    obtain ⟨T, hT⟩ : ∃ T, T = 123 :: (d ++ (t ++ [125])) := ⟨_, rfl⟩
    have hTl : T.length = 2 + d.length + t.length := by rw [hT]; simp; omega
    have n1 : T ≠ [42] := by rw [hT]; intro h; simp at h
    have n2 : T ≠ [43] := by rw [hT]; intro h; simp at h
    have n3 : T ≠ [63] := by rw [hT]; intro h; simp at h
    have at1 : ∀ (k : Nat) (hk : k < d.length), T[1 + k]! = d[k] := fun k hk => by
      have : T.drop (1 + k) = d[k] :: (d.drop (k + 1) ++ (t ++ [125])) := by
        rw [hT, Nat.add_comm, List.drop_succ_cons, List.drop_append_of_le_length (by omega), List.drop_eq_getElem_cons hk]; rfl
      exact (get_drop this).2
    have at3 : t = 44 :: mm → T[1 + d.length]! = 44 := fun h => by
      have : T.drop (1 + d.length) = 44 :: (mm ++ [125]) := by
        rw [hT, Nat.add_comm, List.drop_succ_cons, List.drop_left, h]; rfl
      exact (get_drop this).2
    have at2 : ∀ (k : Nat) (hk : k < mm.length), t = 44 :: mm → T[2 + d.length + k]! = mm[k] := fun k hk h => by
      have : T.drop (2 + d.length + k) = mm[k] :: (mm.drop (k + 1) ++ [125]) := by
        rw [hT, h, show 2 + d.length + k = (d.length + (1 + k)) + 1 by omega, List.drop_succ_cons, ← List.drop_drop, List.drop_left, List.cons_append, Nat.add_comm 1 k, List.drop_succ_cons, List.drop_append_of_le_length (by omega), List.drop_eq_getElem_cons hk]; rfl
      exact (get_drop this).2
    have htl : t.length = if t = [] then 0 else mm.length + 1 := by rcases hmt with ⟨rfl, rfl⟩ | rfl <;> simp
    rw [← hT] at hl ⊢
    refine CallOk.intro (args := [_]) (rs := [_, _]) T_ok Tryd.func83 Tryd.call83 rfl rfl (by kernel_rfl) rfl rfl ?_
    repeat (first
      | (show _ ∧ _; exact ⟨rfl, rfl, rfl⟩)
      | refine wkP ?_
      | (show OpOk _ _ _ _ _ _ _; first | refine opB (fun b => ?_) | refine opA (fun a' c' hc1 hc2 => ?_))
      | (show GJ _ _ _ _ _ _ _; first | (apply GJ.and; exact rfl; intro hg) | (apply GJ.or; exact rfl; intro hg)))
    refine LoopOk.at (ι := Nat × Int × Int × Bool) Keep.auto (fun (k, lo, hi, sec) => [(4, .int .i64 lo), (5, .int .i64 hi), (6, .bool sec), (7, .int .i64 ((1 + k : Nat) : Int))]) (fun (k, lo, hi, sec) => own) (fun (k, lo, hi, sec) => k ≤ d.length + t.length ∧ lo = ((valOf (d.take k) : Nat) : Int) ∧ hi = ((valOf (mm.take (k - d.length - 1)) : Nat) : Int) ∧ sec = decide (d.length < k)) (fun (k, lo, hi, sec) => d.length + t.length - k) (0, 0, 0, false) ?_ Sub.auto Sup.auto ?_
    · refine ⟨Nat.zero_le _, rfl, ?_, rfl⟩
      rw [Nat.zero_sub, Nat.zero_sub]; rfl
    rintro ⟨k, lo, hi, sec⟩ ⟨k1, k2, k3, k4⟩
    dsimp only [List.cons_append, List.nil_append] at k1 k2 k3 k4 ⊢
    have v1 := val_take_le d k
    have v2 := val_take_le mm (k - d.length - 1)
    by_cases hk1 : k < d.length
    · have hx := at1 k hk1
      obtain ⟨_, hx2, hx3, hx4⟩ := dig_125 _ (hdd _ (List.getElem_mem hk1))
      have hx2 : (d[k]).toNat ≠ 44 := u8_ne hx2
      have hv := val_take hk1
      rw [decide_eq_false (show ¬ d.length < k by omega)] at k4
      subst k4
      generalize d[k] = x at hx hx2 hx3 hx4 hv
      repeat (first
        | (show _ ∧ _; exact ⟨rfl, rfl, rfl⟩)
        | refine wkP ?_
        | (show OpOk _ _ _ _ _ _ _; first | refine opB (fun b => ?_) | refine opA (fun a' c' hc1 hc2 => ?_))
        | (show GJ _ _ _ _ _ _ _; first | (apply GJ.and; exact rfl; intro hg) | (apply GJ.or; exact rfl; intro hg)))
      rw [Int.toNat_natCast, hx]
      refine Br.f (by omega) ?_
      repeat (first
        | (show _ ∧ _; exact ⟨rfl, rfl, rfl⟩)
        | refine wkP ?_
        | (show OpOk _ _ _ _ _ _ _; first | refine opB (fun b => ?_) | refine opA (fun a' c' hc1 hc2 => ?_))
        | (show GJ _ _ _ _ _ _ _; first | (apply GJ.and; exact rfl; intro hg) | (apply GJ.or; exact rfl; intro hg)))
      try rw [Int.toNat_natCast]
      try rw [hx]
      repeat (first
        | (show _ ∧ _; exact ⟨rfl, rfl, rfl⟩)
        | refine wkP ?_
        | (show OpOk _ _ _ _ _ _ _; first | refine opB (fun b => ?_) | refine opA (fun a' c' hc1 hc2 => ?_))
        | (show GJ _ _ _ _ _ _ _; first | (apply GJ.and; exact rfl; intro hg) | (apply GJ.or; exact rfl; intro hg)))
      refine Wk.id ⟨(k + 1, _, hi, false), ⟨rfl, ?_⟩, ?_, Sub.auto, Sup.auto⟩
      all_goals try dsimp only
      · refine ⟨by omega, ?_, ?_, ?_⟩
        · rw [hv]; omega
        · rw [k3, show k + 1 - d.length - 1 = 0 by omega, show k - d.length - 1 = 0 by omega]
        · rw [decide_eq_false (by omega)]
      · omega
    · by_cases hk2 : k < d.length + t.length
      · have ht44 : t = 44 :: mm := by
          rcases hmt with ⟨rfl, _⟩ | h
          · simp at hk2; omega
          · exact h
        have htl2 : t.length = mm.length + 1 := by rw [ht44]; rfl
        have hdt : d.take (k + 1) = d.take k := by rw [List.take_of_length_le (by omega), List.take_of_length_le (by omega)]
        by_cases hk3 : k = d.length
        · subst hk3
          have hx := at3 ht44
          rw [decide_eq_false (show ¬ d.length < d.length by omega)] at k4
          subst k4
          repeat (first
            | (show _ ∧ _; exact ⟨rfl, rfl, rfl⟩)
            | refine wkP ?_
            | (show OpOk _ _ _ _ _ _ _; first | refine opB (fun b => ?_) | refine opA (fun a' c' hc1 hc2 => ?_))
            | (show GJ _ _ _ _ _ _ _; first | (apply GJ.and; exact rfl; intro hg) | (apply GJ.or; exact rfl; intro hg)))
          rw [Int.toNat_natCast, hx]
          repeat (first
            | (show _ ∧ _; exact ⟨rfl, rfl, rfl⟩)
            | refine wkP ?_
            | (show OpOk _ _ _ _ _ _ _; first | refine opB (fun b => ?_) | refine opA (fun a' c' hc1 hc2 => ?_))
            | (show GJ _ _ _ _ _ _ _; first | (apply GJ.and; exact rfl; intro hg) | (apply GJ.or; exact rfl; intro hg)))
          refine Wk.id ⟨(d.length + 1, lo, hi, true), ⟨rfl, ?_⟩, ?_, Sub.auto, Sup.auto⟩
          all_goals try dsimp only
          · refine ⟨by omega, ?_, ?_, ?_⟩
            · rw [hdt]; exact k2
            · rw [k3, show d.length + 1 - d.length - 1 = 0 by omega, show d.length - d.length - 1 = 0 by omega]
            · rw [decide_eq_true (by omega)]
          · omega
        · obtain ⟨i, rfl⟩ : ∃ i, k = d.length + 1 + i := ⟨k - d.length - 1, by omega⟩
          have hi1 : i < mm.length := by omega
          have hx := at2 i hi1 ht44
          obtain ⟨_, hx2, hx3, hx4⟩ := dig_125 _ (hmd _ (List.getElem_mem hi1))
          have hx2 : (mm[i]).toNat ≠ 44 := u8_ne hx2
          have hv := val_take hi1
          rw [show d.length + 1 + i - d.length - 1 = i by omega] at k3 v2
          rw [decide_eq_true (show d.length < d.length + 1 + i by omega)] at k4
          subst k4
          generalize mm[i] = x at hx hx2 hx3 hx4 hv
          repeat (first
            | (show _ ∧ _; exact ⟨rfl, rfl, rfl⟩)
            | refine wkP ?_
            | (show OpOk _ _ _ _ _ _ _; first | refine opB (fun b => ?_) | refine opA (fun a' c' hc1 hc2 => ?_))
            | (show GJ _ _ _ _ _ _ _; first | (apply GJ.and; exact rfl; intro hg) | (apply GJ.or; exact rfl; intro hg)))
          rw [Int.toNat_natCast, show 1 + (d.length + 1 + i) = 2 + d.length + i by omega, hx]
          refine Br.f (by omega) ?_
          repeat (first
            | (show _ ∧ _; exact ⟨rfl, rfl, rfl⟩)
            | refine wkP ?_
            | (show OpOk _ _ _ _ _ _ _; first | refine opB (fun b => ?_) | refine opA (fun a' c' hc1 hc2 => ?_))
            | (show GJ _ _ _ _ _ _ _; first | (apply GJ.and; exact rfl; intro hg) | (apply GJ.or; exact rfl; intro hg)))
          try rw [Int.toNat_natCast]
          try rw [hx]
          repeat (first
            | (show _ ∧ _; exact ⟨rfl, rfl, rfl⟩)
            | refine wkP ?_
            | (show OpOk _ _ _ _ _ _ _; first | refine opB (fun b => ?_) | refine opA (fun a' c' hc1 hc2 => ?_))
            | (show GJ _ _ _ _ _ _ _; first | (apply GJ.and; exact rfl; intro hg) | (apply GJ.or; exact rfl; intro hg)))
          refine Wk.id ⟨(d.length + 1 + i + 1, lo, _, true), ⟨rfl, ?_⟩, ?_, Sub.auto, Sup.auto⟩
          all_goals try dsimp only
          · refine ⟨by omega, ?_, ?_, ?_⟩
            · rw [hdt]; exact k2
            · rw [show d.length + 1 + i + 1 - d.length - 1 = i + 1 by omega, hv]; omega
            · rw [decide_eq_true (by omega)]
          · omega
      · obtain rfl : k = d.length + t.length := by omega
        have hdt : d.take (d.length + t.length) = d := List.take_of_length_le (by omega)
        rw [hdt] at k2
        rcases hc.high with ⟨rfl, rfl⟩ | ⟨rfl, rfl⟩ | ⟨m, hm0, rfl, hm1, hm2, rfl⟩
        · rw [decide_eq_false (show ¬ d.length < d.length + ([] : List UInt8).length by simp)] at k4
          subst k4
          rw [← hda] at k2
          subst k2
          repeat (first
            | (show _ ∧ _; exact ⟨rfl, rfl, rfl⟩)
            | refine wkP ?_
            | (show OpOk _ _ _ _ _ _ _; first | refine opB (fun b => ?_) | refine opA (fun a' c' hc1 hc2 => ?_))
            | (show GJ _ _ _ _ _ _ _; first | (apply GJ.and; exact rfl; intro hg) | (apply GJ.or; exact rfl; intro hg)))
          exact Wk.outS Sup.auto (.refl _) hk
        · rw [decide_eq_true (show d.length < d.length + ([44] : List UInt8).length by simp)] at k4
          subst k4
          rw [← hda] at k2
          subst k2
          have hm : mm = [] := by rcases hmt with ⟨h, _⟩ | h; cases h; exact (List.cons.inj h).2.symm
          have hx := at3 (by rw [hm])
          rw [show ([44] : List UInt8).length = 1 from rfl] at hTl ⊢
          repeat (first
            | (show _ ∧ _; exact ⟨rfl, rfl, rfl⟩)
            | refine wkP ?_
            | (show OpOk _ _ _ _ _ _ _; first | refine opB (fun b => ?_) | refine opA (fun a' c' hc1 hc2 => ?_))
            | (show GJ _ _ _ _ _ _ _; first | (apply GJ.and; exact rfl; intro hg) | (apply GJ.or; exact rfl; intro hg)))
          rw [show ((T.length : Int) - 2).toNat = 1 + d.length by omega, hx]
          repeat (first
            | (show _ ∧ _; exact ⟨rfl, rfl, rfl⟩)
            | refine wkP ?_
            | (show OpOk _ _ _ _ _ _ _; first | refine opB (fun b => ?_) | refine opA (fun a' c' hc1 hc2 => ?_))
            | (show GJ _ _ _ _ _ _ _; first | (apply GJ.and; exact rfl; intro hg) | (apply GJ.or; exact rfl; intro hg)))
          exact Wk.outS Sup.auto (.refl _) hk
        · rw [List.length_cons] at hTl k4 k3
          have hmm : m = mm := by rcases hmt with ⟨h, _⟩ | h; cases h; exact (List.cons.inj h).2
          subst hmm
          rw [decide_eq_true (by omega)] at k4
          subst k4
          rw [← hda] at k2
          subst k2
          rw [show d.length + (m.length + 1) - d.length - 1 = m.length by omega, List.take_length] at k3
          subst k3
          have hml : 0 < m.length := List.length_pos_iff.2 hm0
          have hx := at2 (m.length - 1) (by omega) rfl
          obtain ⟨_, hx2, hx3, hx4⟩ := dig_125 _ (hm1 _ (List.getElem_mem (show m.length - 1 < m.length by omega)))
          have hx2 : (m[m.length - 1]).toNat ≠ 44 := u8_ne hx2
          generalize m[m.length - 1] = x at hx hx2
          rw [List.length_cons]
          repeat (first
            | (show _ ∧ _; exact ⟨rfl, rfl, rfl⟩)
            | refine wkP ?_
            | (show OpOk _ _ _ _ _ _ _; first | refine opB (fun b => ?_) | refine opA (fun a' c' hc1 hc2 => ?_))
            | (show GJ _ _ _ _ _ _ _; first | (apply GJ.and; exact rfl; intro hg) | (apply GJ.or; exact rfl; intro hg)))
          rw [show ((T.length : Int) - 2).toNat = 2 + d.length + (m.length - 1) by omega, hx]
          refine Br.f (by omega) ?_
          repeat (first
            | (show _ ∧ _; exact ⟨rfl, rfl, rfl⟩)
            | refine wkP ?_
            | (show OpOk _ _ _ _ _ _ _; first | refine opB (fun b => ?_) | refine opA (fun a' c' hc1 hc2 => ?_))
            | (show GJ _ _ _ _ _ _ _; first | (apply GJ.and; exact rfl; intro hg) | (apply GJ.or; exact rfl; intro hg)))
          exact Wk.outS Sup.auto (.refl _) hk
end
end Go.Proofs.YtniofdklhlbphaaDoor
