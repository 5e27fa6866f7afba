/- Contracts of regex: set. -/
import Derived.Test.YtkpdnpcmeadggaaRg2
import Derived.Test.YtkpdnpcmeadggaaRxx
namespace Go.Proofs.Ytkpdnpcmeadggaa
open Go Go.E
set_option linter.unusedVariables false
set_option linter.unusedSimpArgs false
set_option maxRecDepth 10000
theorem pairD_lt {t : List UInt8} {s : RS} : (pairD t s).1.1 < 256 ∧ (pairD t s).1.2 < 256 := by
  unfold pairD
  split
  · exact ⟨byteD_lt, byteD_lt⟩
  · exact ⟨byteD_lt, byteD_lt⟩
theorem setL_stop {t : List UInt8} {a k : Nat} {z : SetD} {s : RS} (h : s.e ≠ 0) : setL t a k z s = (z, s) := by
  cases k with
  | zero => rfl
  | succ k => rw [setL, if_neg (fun x => h x.1)]
theorem setL_in {t : List UInt8} {a : Nat} : ∀ {k : Nat} {z : SetD} {s : RS}, SetIn z → SetIn (setL t a k z s).1
  | 0, z, s, h => h
  | k + 1, z, s, h => by
    rw [setL]
    split
    · split
      · exact h
      · exact setL_in (h.or (range_in _ _))
    · exact h
/-- A round of the reading of pairs goes on. -/
theorem pair_more {t : List UInt8} {s : RS} (h : Inv t s) (h0 : s.e = 0) : (pairD t s).2.e = 0 → s.p + 1 ≤ (pairD t s).2.p := by
  intro he
  obtain ⟨l, ⟨r1, r2⟩, _⟩ := pair_sound he
  rw [r1]
  show s.p + 1 ≤ s.p + l.length
  by_cases hl : l = []
  · subst hl
    exfalso
    have : (byteD t s).2.e = 0 := by
      unfold pairD at he
      split at he
      · exact back_e (f := fun s => byteD t s) (fun h => byte_keep h) (s := (byteD t s).2.adv) he
      · exact he
    obtain ⟨m, ⟨b1, b2⟩, hb⟩ := byte_sound this
    obtain ⟨x, q, hx, _⟩ := hb.head
    have h1 : (byteD t s).2.p ≤ (pairD t s).2.p := by
      unfold pairD at he ⊢
      split
      · rename_i e
        rw [if_pos e] at he
        obtain ⟨m2, ⟨c1, c2⟩, _⟩ := byte_sound he
        rw [c1]; show (byteD t s).2.p ≤ (byteD t s).2.p + 1 + m2.length; omega
      · exact Nat.le_refl _
    rw [r1, b1] at h1
    have h1 : s.p + m.length ≤ s.p + 0 := h1
    subst hx
    simp at h1
    omega
  · have : 0 < l.length := List.length_pos_iff.2 hl
    omega
section
variable {ro : Ro} {own r : Chs} {K : Value → Ro → Chs → Prop} {g : Chunk → Chs} {q : Nat} {t : List UInt8}
theorem rangeD_ok {x y : Nat} (hx : x < 256) (hy : y < 256) (hk : K (.agg (setV (rangeD x y)).toArray) ro own) : CallOk Try.prog 69 #[.int .u8 (x : Int), .int .u8 (y : Int)] ro own K :=
  range_ok hx hy fun s h1 h2 => by
    have : s = rangeD x y := SetD.ext h1 (range_in x y) fun c hc => by rw [h2 c hc, range_has x y hc]
    rw [this]; exact hk
set_option maxHeartbeats 8000000 in
theorem set_ok {s : RS} [hb : HasBlk own q 71 (rsV t s) g] {x : Int} (a : Nat) (hx : x = (a : Int)) (ha : a ≤ t.length) (hi : Inv t s) (h0 : s.e = 0) (hl : t.length ≤ 10000) (hk : K (.agg (setV (setD t a s).1).toArray) ro (g (.blk q 71 (rsV t (setD t a s).2)))) :
    CallOk Try.prog 63 #[ptr' q, .int .i64 x] ro own K := by
  subst hx
  obtain ⟨r, p1, p2⟩ := hb.split
  refine CallOk.perm p1 ?_
  have hip := hi.p
  refine CallOk.intro (args := [_, _]) (rs := [_]) T_ok Try.func63 Try.call63 rfl rfl (by kernel_rfl) rfl rfl ?_
  repeat (first
    | (show _ ∧ _; exact ⟨rfl, rfl, rfl⟩)
    | refine wkP ?_
    | (show OpOk _ _ _ _ _ _ _; first | refine opB (fun b => ?_) | refine opA (fun a' c' hc1 hc2 => ?_))
    | (show GJ _ _ _ _ _ _ _; first | (apply GJ.and; exact rfl; intro hg) | (apply GJ.or; exact rfl; intro hg)))
  obtain ⟨b1, hb1⟩ : ∃ z : Nat, z = b := ⟨_, rfl⟩
  subst hb1
  refine eat_ok (t := t) (s := s) 94 rfl (by decide) (by omega) ?_
  have hi1 : Inv t (eatS t 94 s) := hi.eat (by decide)
  have h01 : (eatS t 94 s).e = 0 := by rw [eat_keep]; exact h0
  obtain ⟨R, hR⟩ : ∃ R, R = setL t a (t.length + 1) zeroS (eatS t 94 s) := ⟨_, rfl⟩
  have hRin : SetIn R.1 := by rw [hR]; exact setL_in zeroS_in
  unfold setD at hk
  dsimp only at hk
  rw [← hR] at hk
  generalize eatS t 94 s = s0 at hi1 h01 hR
  generalize decide (peekD t s = 94) = tb at hk ⊢
  have hfin : ∀ z s2, R = (z, s2) → Inv t s2 → s2.p ≤ 10000000 := fun z s2 _ h => by have := h.p; omega
  repeat (first
    | (show _ ∧ _; exact ⟨rfl, rfl, rfl⟩)
    | refine wkP ?_
    | (show OpOk _ _ _ _ _ _ _; first | refine opB (fun b => ?_) | refine opA (fun a' c' hc1 hc2 => ?_))
    | (show GJ _ _ _ _ _ _ _; first | (apply GJ.and; exact rfl; intro hg) | (apply GJ.or; exact rfl; intro hg)))
  obtain ⟨b2, hb2⟩ : ∃ z : Nat, z = b := ⟨_, rfl⟩
  subst hb2
  refine LoopOk.at (ι := Nat × SetD × RS) Keep.auto (fun (k, z, s1) => []) (fun (k, z, s1) => .blk b2 64 (setV z) :: .blk b1 64 (setV zeroS) :: .blk q 71 (rsV t s1) :: r) (fun (k, z, s1) => setL t a k z s1 = R ∧ SetIn z ∧ Inv t s1 ∧ (s1.e = 0 → t.length + 1 ≤ k + s1.p)) (fun (k, z, s1) => k) (t.length + 1, zeroS, s0) ?_ Sub.auto Sup.auto ?_
  · exact ⟨hR.symm, zeroS_in, hi1, fun _ => by omega⟩
  rintro ⟨k, z, s1⟩ ⟨i1, i2, i3, i4⟩
  dsimp only [List.cons_append, List.nil_append] at i1 i2 i3 i4 ⊢
  have hp1 := i3.p
  repeat (first
    | (show _ ∧ _; exact ⟨rfl, rfl, rfl⟩)
    | refine wkP ?_
    | (show OpOk _ _ _ _ _ _ _; first | refine opB (fun b => ?_) | refine opA (fun a' c' hc1 hc2 => ?_))
    | (show GJ _ _ _ _ _ _ _; first | (apply GJ.and; exact rfl; intro hg) | (apply GJ.or; exact rfl; intro hg)))
  refine rok_ok (t := t) (s := s1) ?_
  by_cases he : ¬ s1.e = 0
  · have hRz : R = (z, s1) := i1.symm.trans (setL_stop he)
    rw [decide_eq_false (show ¬ (s1.e : Int) = 0 by omega)]
    repeat (first
      | (show _ ∧ _; exact ⟨rfl, rfl, rfl⟩)
      | refine wkP ?_
      | (show OpOk _ _ _ _ _ _ _; first | refine opB (fun b => ?_) | refine opA (fun a' c' hc1 hc2 => ?_))
      | (show GJ _ _ _ _ _ _ _; first | (apply GJ.and; exact rfl; intro hg) | (apply GJ.or; exact rfl; intro hg)))
    refine must_ok (t := t) (s := s1) 93 rfl (by decide) (hfin _ _ hRz i3) ?_
    rw [hRz] at hk hRin
    dsimp only at hk hRin
    generalize mustS t 93 s1 = s5 at hk ⊢
    have hzin : SetIn (turnD tb z) := by
      cases tb with
      | true => exact SetIn.not _
      | false => exact hRin
    have hck : K (.agg (setV (turnD tb z)).toArray) ro (g (.blk q 71 (rsV t (if s5.e = 0 ∧ turnD tb z = zeroS then s5.wrong 160 a else s5)))) := hk
    cases tb with
    | true =>
      rw [show turnD true z = SetD.not z from rfl] at hck
      repeat (first
        | (show _ ∧ _; exact ⟨rfl, rfl, rfl⟩)
        | refine wkP ?_
        | (show OpOk _ _ _ _ _ _ _; first | refine opB (fun b => ?_) | refine opA (fun a' c' hc1 hc2 => ?_))
        | (show GJ _ _ _ _ _ _ _; first | (apply GJ.and; exact rfl; intro hg) | (apply GJ.or; exact rfl; intro hg)))
      refine not_ok hRin ?_
      repeat (first
        | (show _ ∧ _; exact ⟨rfl, rfl, rfl⟩)
        | refine wkP ?_
        | (show OpOk _ _ _ _ _ _ _; first | refine opB (fun b => ?_) | refine opA (fun a' c' hc1 hc2 => ?_))
        | (show GJ _ _ _ _ _ _ _; first | (apply GJ.and; exact rfl; intro hg) | (apply GJ.or; exact rfl; intro hg)))
      refine rok_ok (t := t) (s := s5) ?_
      by_cases he5 : s5.e = 0
      · rw [decide_eq_true (show (s5.e : Int) = 0 by omega)]
        repeat (first
          | (show _ ∧ _; exact ⟨rfl, rfl, rfl⟩)
          | refine wkP ?_
          | (show OpOk _ _ _ _ _ _ _; first | refine opB (fun b => ?_) | refine opA (fun a' c' hc1 hc2 => ?_))
          | (show GJ _ _ _ _ _ _ _; first | (apply GJ.and; exact rfl; intro hg) | (apply GJ.or; exact rfl; intro hg)))
        refine check_ok ?_
        by_cases hz0 : SetD.not z = zeroS
        · rw [if_pos ⟨he5, hz0⟩] at hck
          rw [if_pos (show SetD.not z = ⟨0, 0, 0, 0⟩ from hz0)]
          repeat (first
            | (show _ ∧ _; exact ⟨rfl, rfl, rfl⟩)
            | refine wkP ?_
            | (show OpOk _ _ _ _ _ _ _; first | refine opB (fun b => ?_) | refine opA (fun a' c' hc1 hc2 => ?_))
            | (show GJ _ _ _ _ _ _ _; first | (apply GJ.and; exact rfl; intro hg) | (apply GJ.or; exact rfl; intro hg)))
          refine rwrong_ok (t := t) (s := s5) 160 a rfl rfl ?_
          repeat (first
            | (show _ ∧ _; exact ⟨rfl, rfl, rfl⟩)
            | refine wkP ?_
            | (show OpOk _ _ _ _ _ _ _; first | refine opB (fun b => ?_) | refine opA (fun a' c' hc1 hc2 => ?_))
            | (show GJ _ _ _ _ _ _ _; first | (apply GJ.and; exact rfl; intro hg) | (apply GJ.or; exact rfl; intro hg)))
          exact Wk.outS Sup.auto (p2 _) hck
        · rw [if_neg (fun x => hz0 x.2)] at hck
          rw [if_neg (show ¬ SetD.not z = ⟨0, 0, 0, 0⟩ from hz0)]
          repeat (first
            | (show _ ∧ _; exact ⟨rfl, rfl, rfl⟩)
            | refine wkP ?_
            | (show OpOk _ _ _ _ _ _ _; first | refine opB (fun b => ?_) | refine opA (fun a' c' hc1 hc2 => ?_))
            | (show GJ _ _ _ _ _ _ _; first | (apply GJ.and; exact rfl; intro hg) | (apply GJ.or; exact rfl; intro hg)))
          exact Wk.outS Sup.auto (p2 _) hck
      · rw [decide_eq_false (show ¬ (s5.e : Int) = 0 by omega)]
        rw [if_neg (fun x => he5 x.1)] at hck
        repeat (first
          | (show _ ∧ _; exact ⟨rfl, rfl, rfl⟩)
          | refine wkP ?_
          | (show OpOk _ _ _ _ _ _ _; first | refine opB (fun b => ?_) | refine opA (fun a' c' hc1 hc2 => ?_))
          | (show GJ _ _ _ _ _ _ _; first | (apply GJ.and; exact rfl; intro hg) | (apply GJ.or; exact rfl; intro hg)))
        exact Wk.outS Sup.auto (p2 _) hck
    | false =>
      rw [show turnD false z = z from rfl] at hck
      repeat (first
        | (show _ ∧ _; exact ⟨rfl, rfl, rfl⟩)
        | refine wkP ?_
        | (show OpOk _ _ _ _ _ _ _; first | refine opB (fun b => ?_) | refine opA (fun a' c' hc1 hc2 => ?_))
        | (show GJ _ _ _ _ _ _ _; first | (apply GJ.and; exact rfl; intro hg) | (apply GJ.or; exact rfl; intro hg)))
      refine rok_ok (t := t) (s := s5) ?_
      by_cases he5 : s5.e = 0
      · rw [decide_eq_true (show (s5.e : Int) = 0 by omega)]
        repeat (first
          | (show _ ∧ _; exact ⟨rfl, rfl, rfl⟩)
          | refine wkP ?_
          | (show OpOk _ _ _ _ _ _ _; first | refine opB (fun b => ?_) | refine opA (fun a' c' hc1 hc2 => ?_))
          | (show GJ _ _ _ _ _ _ _; first | (apply GJ.and; exact rfl; intro hg) | (apply GJ.or; exact rfl; intro hg)))
        refine check_ok ?_
        by_cases hz0 : z = zeroS
        · rw [if_pos ⟨he5, hz0⟩] at hck
          rw [if_pos (show z = ⟨0, 0, 0, 0⟩ from hz0)]
          repeat (first
            | (show _ ∧ _; exact ⟨rfl, rfl, rfl⟩)
            | refine wkP ?_
            | (show OpOk _ _ _ _ _ _ _; first | refine opB (fun b => ?_) | refine opA (fun a' c' hc1 hc2 => ?_))
            | (show GJ _ _ _ _ _ _ _; first | (apply GJ.and; exact rfl; intro hg) | (apply GJ.or; exact rfl; intro hg)))
          refine rwrong_ok (t := t) (s := s5) 160 a rfl rfl ?_
          repeat (first
            | (show _ ∧ _; exact ⟨rfl, rfl, rfl⟩)
            | refine wkP ?_
            | (show OpOk _ _ _ _ _ _ _; first | refine opB (fun b => ?_) | refine opA (fun a' c' hc1 hc2 => ?_))
            | (show GJ _ _ _ _ _ _ _; first | (apply GJ.and; exact rfl; intro hg) | (apply GJ.or; exact rfl; intro hg)))
          exact Wk.outS Sup.auto (p2 _) hck
        · rw [if_neg (fun x => hz0 x.2)] at hck
          rw [if_neg (show ¬ z = ⟨0, 0, 0, 0⟩ from hz0)]
          repeat (first
            | (show _ ∧ _; exact ⟨rfl, rfl, rfl⟩)
            | refine wkP ?_
            | (show OpOk _ _ _ _ _ _ _; first | refine opB (fun b => ?_) | refine opA (fun a' c' hc1 hc2 => ?_))
            | (show GJ _ _ _ _ _ _ _; first | (apply GJ.and; exact rfl; intro hg) | (apply GJ.or; exact rfl; intro hg)))
          exact Wk.outS Sup.auto (p2 _) hck
      · rw [decide_eq_false (show ¬ (s5.e : Int) = 0 by omega)]
        rw [if_neg (fun x => he5 x.1)] at hck
        repeat (first
          | (show _ ∧ _; exact ⟨rfl, rfl, rfl⟩)
          | refine wkP ?_
          | (show OpOk _ _ _ _ _ _ _; first | refine opB (fun b => ?_) | refine opA (fun a' c' hc1 hc2 => ?_))
          | (show GJ _ _ _ _ _ _ _; first | (apply GJ.and; exact rfl; intro hg) | (apply GJ.or; exact rfl; intro hg)))
        exact Wk.outS Sup.auto (p2 _) hck
  have he := Decidable.of_not_not he
  rw [decide_eq_true (show (s1.e : Int) = 0 by omega)]
  have h4 := i4 he
  have h5 := i3.p0 he
  obtain ⟨k, rfl⟩ : ∃ j, k = j + 1 := ⟨k - 1, by omega⟩
  rw [setL] at i1
  repeat (first
    | (show _ ∧ _; exact ⟨rfl, rfl, rfl⟩)
    | refine wkP ?_
    | (show OpOk _ _ _ _ _ _ _; first | refine opB (fun b => ?_) | refine opA (fun a' c' hc1 hc2 => ?_))
    | (show GJ _ _ _ _ _ _ _; first | (apply GJ.and; exact rfl; intro hg) | (apply GJ.or; exact rfl; intro hg)))
  refine peek_ok (t := t) (s := s1) ?_
  by_cases h93 : peekD t s1 = 93
  · rw [if_neg (fun x => x.2 h93)] at i1
    have hRz : R = (z, s1) := i1.symm
    rw [h93]
    repeat (first
      | (show _ ∧ _; exact ⟨rfl, rfl, rfl⟩)
      | refine wkP ?_
      | (show OpOk _ _ _ _ _ _ _; first | refine opB (fun b => ?_) | refine opA (fun a' c' hc1 hc2 => ?_))
      | (show GJ _ _ _ _ _ _ _; first | (apply GJ.and; exact rfl; intro hg) | (apply GJ.or; exact rfl; intro hg)))
    refine must_ok (t := t) (s := s1) 93 rfl (by decide) (hfin _ _ hRz i3) ?_
    rw [hRz] at hk hRin
    dsimp only at hk hRin
    generalize mustS t 93 s1 = s5 at hk ⊢
    have hzin : SetIn (turnD tb z) := by
      cases tb with
      | true => exact SetIn.not _
      | false => exact hRin
    have hck : K (.agg (setV (turnD tb z)).toArray) ro (g (.blk q 71 (rsV t (if s5.e = 0 ∧ turnD tb z = zeroS then s5.wrong 160 a else s5)))) := hk
    cases tb with
    | true =>
      rw [show turnD true z = SetD.not z from rfl] at hck
      repeat (first
        | (show _ ∧ _; exact ⟨rfl, rfl, rfl⟩)
        | refine wkP ?_
        | (show OpOk _ _ _ _ _ _ _; first | refine opB (fun b => ?_) | refine opA (fun a' c' hc1 hc2 => ?_))
        | (show GJ _ _ _ _ _ _ _; first | (apply GJ.and; exact rfl; intro hg) | (apply GJ.or; exact rfl; intro hg)))
      refine not_ok hRin ?_
      repeat (first
        | (show _ ∧ _; exact ⟨rfl, rfl, rfl⟩)
        | refine wkP ?_
        | (show OpOk _ _ _ _ _ _ _; first | refine opB (fun b => ?_) | refine opA (fun a' c' hc1 hc2 => ?_))
        | (show GJ _ _ _ _ _ _ _; first | (apply GJ.and; exact rfl; intro hg) | (apply GJ.or; exact rfl; intro hg)))
      refine rok_ok (t := t) (s := s5) ?_
      by_cases he5 : s5.e = 0
      · rw [decide_eq_true (show (s5.e : Int) = 0 by omega)]
        repeat (first
          | (show _ ∧ _; exact ⟨rfl, rfl, rfl⟩)
          | refine wkP ?_
          | (show OpOk _ _ _ _ _ _ _; first | refine opB (fun b => ?_) | refine opA (fun a' c' hc1 hc2 => ?_))
          | (show GJ _ _ _ _ _ _ _; first | (apply GJ.and; exact rfl; intro hg) | (apply GJ.or; exact rfl; intro hg)))
        refine check_ok ?_
        by_cases hz0 : SetD.not z = zeroS
        · rw [if_pos ⟨he5, hz0⟩] at hck
          rw [if_pos (show SetD.not z = ⟨0, 0, 0, 0⟩ from hz0)]
          repeat (first
            | (show _ ∧ _; exact ⟨rfl, rfl, rfl⟩)
            | refine wkP ?_
            | (show OpOk _ _ _ _ _ _ _; first | refine opB (fun b => ?_) | refine opA (fun a' c' hc1 hc2 => ?_))
            | (show GJ _ _ _ _ _ _ _; first | (apply GJ.and; exact rfl; intro hg) | (apply GJ.or; exact rfl; intro hg)))
          refine rwrong_ok (t := t) (s := s5) 160 a rfl rfl ?_
          repeat (first
            | (show _ ∧ _; exact ⟨rfl, rfl, rfl⟩)
            | refine wkP ?_
            | (show OpOk _ _ _ _ _ _ _; first | refine opB (fun b => ?_) | refine opA (fun a' c' hc1 hc2 => ?_))
            | (show GJ _ _ _ _ _ _ _; first | (apply GJ.and; exact rfl; intro hg) | (apply GJ.or; exact rfl; intro hg)))
          exact Wk.outS Sup.auto (p2 _) hck
        · rw [if_neg (fun x => hz0 x.2)] at hck
          rw [if_neg (show ¬ SetD.not z = ⟨0, 0, 0, 0⟩ from hz0)]
          repeat (first
            | (show _ ∧ _; exact ⟨rfl, rfl, rfl⟩)
            | refine wkP ?_
            | (show OpOk _ _ _ _ _ _ _; first | refine opB (fun b => ?_) | refine opA (fun a' c' hc1 hc2 => ?_))
            | (show GJ _ _ _ _ _ _ _; first | (apply GJ.and; exact rfl; intro hg) | (apply GJ.or; exact rfl; intro hg)))
          exact Wk.outS Sup.auto (p2 _) hck
      · rw [decide_eq_false (show ¬ (s5.e : Int) = 0 by omega)]
        rw [if_neg (fun x => he5 x.1)] at hck
        repeat (first
          | (show _ ∧ _; exact ⟨rfl, rfl, rfl⟩)
          | refine wkP ?_
          | (show OpOk _ _ _ _ _ _ _; first | refine opB (fun b => ?_) | refine opA (fun a' c' hc1 hc2 => ?_))
          | (show GJ _ _ _ _ _ _ _; first | (apply GJ.and; exact rfl; intro hg) | (apply GJ.or; exact rfl; intro hg)))
        exact Wk.outS Sup.auto (p2 _) hck
    | false =>
      rw [show turnD false z = z from rfl] at hck
      repeat (first
        | (show _ ∧ _; exact ⟨rfl, rfl, rfl⟩)
        | refine wkP ?_
        | (show OpOk _ _ _ _ _ _ _; first | refine opB (fun b => ?_) | refine opA (fun a' c' hc1 hc2 => ?_))
        | (show GJ _ _ _ _ _ _ _; first | (apply GJ.and; exact rfl; intro hg) | (apply GJ.or; exact rfl; intro hg)))
      refine rok_ok (t := t) (s := s5) ?_
      by_cases he5 : s5.e = 0
      · rw [decide_eq_true (show (s5.e : Int) = 0 by omega)]
        repeat (first
          | (show _ ∧ _; exact ⟨rfl, rfl, rfl⟩)
          | refine wkP ?_
          | (show OpOk _ _ _ _ _ _ _; first | refine opB (fun b => ?_) | refine opA (fun a' c' hc1 hc2 => ?_))
          | (show GJ _ _ _ _ _ _ _; first | (apply GJ.and; exact rfl; intro hg) | (apply GJ.or; exact rfl; intro hg)))
        refine check_ok ?_
        by_cases hz0 : z = zeroS
        · rw [if_pos ⟨he5, hz0⟩] at hck
          rw [if_pos (show z = ⟨0, 0, 0, 0⟩ from hz0)]
          repeat (first
            | (show _ ∧ _; exact ⟨rfl, rfl, rfl⟩)
            | refine wkP ?_
            | (show OpOk _ _ _ _ _ _ _; first | refine opB (fun b => ?_) | refine opA (fun a' c' hc1 hc2 => ?_))
            | (show GJ _ _ _ _ _ _ _; first | (apply GJ.and; exact rfl; intro hg) | (apply GJ.or; exact rfl; intro hg)))
          refine rwrong_ok (t := t) (s := s5) 160 a rfl rfl ?_
          repeat (first
            | (show _ ∧ _; exact ⟨rfl, rfl, rfl⟩)
            | refine wkP ?_
            | (show OpOk _ _ _ _ _ _ _; first | refine opB (fun b => ?_) | refine opA (fun a' c' hc1 hc2 => ?_))
            | (show GJ _ _ _ _ _ _ _; first | (apply GJ.and; exact rfl; intro hg) | (apply GJ.or; exact rfl; intro hg)))
          exact Wk.outS Sup.auto (p2 _) hck
        · rw [if_neg (fun x => hz0 x.2)] at hck
          rw [if_neg (show ¬ z = ⟨0, 0, 0, 0⟩ from hz0)]
          repeat (first
            | (show _ ∧ _; exact ⟨rfl, rfl, rfl⟩)
            | refine wkP ?_
            | (show OpOk _ _ _ _ _ _ _; first | refine opB (fun b => ?_) | refine opA (fun a' c' hc1 hc2 => ?_))
            | (show GJ _ _ _ _ _ _ _; first | (apply GJ.and; exact rfl; intro hg) | (apply GJ.or; exact rfl; intro hg)))
          exact Wk.outS Sup.auto (p2 _) hck
      · rw [decide_eq_false (show ¬ (s5.e : Int) = 0 by omega)]
        rw [if_neg (fun x => he5 x.1)] at hck
        repeat (first
          | (show _ ∧ _; exact ⟨rfl, rfl, rfl⟩)
          | refine wkP ?_
          | (show OpOk _ _ _ _ _ _ _; first | refine opB (fun b => ?_) | refine opA (fun a' c' hc1 hc2 => ?_))
          | (show GJ _ _ _ _ _ _ _; first | (apply GJ.and; exact rfl; intro hg) | (apply GJ.or; exact rfl; intro hg)))
        exact Wk.outS Sup.auto (p2 _) hck
  rw [if_pos ⟨he, h93⟩] at i1
  repeat (first
    | (show _ ∧ _; exact ⟨rfl, rfl, rfl⟩)
    | refine wkP ?_
    | (show OpOk _ _ _ _ _ _ _; first | refine opB (fun b => ?_) | refine opA (fun a' c' hc1 hc2 => ?_))
    | (show GJ _ _ _ _ _ _ _; first | (apply GJ.and; exact rfl; intro hg) | (apply GJ.or; exact rfl; intro hg)))
  refine peek_ok (t := t) (s := s1) ?_
  by_cases hz : peekD t s1 = 0
  · rw [if_pos hz] at i1
    have hRz : R = (z, s1.wrong 5 s1.p) := i1.symm
    have hiw : Inv t (s1.wrong 5 s1.p) := i3.wrong (.inr (.inr (.inl rfl))) (fun _ => h5)
    rw [hz]
    repeat (first
      | (show _ ∧ _; exact ⟨rfl, rfl, rfl⟩)
      | refine wkP ?_
      | (show OpOk _ _ _ _ _ _ _; first | refine opB (fun b => ?_) | refine opA (fun a' c' hc1 hc2 => ?_))
      | (show GJ _ _ _ _ _ _ _; first | (apply GJ.and; exact rfl; intro hg) | (apply GJ.or; exact rfl; intro hg)))
    refine rwrong_ok (t := t) (s := s1) 5 s1.p rfl rfl ?_
    generalize s1.wrong 5 s1.p = s4 at hRz hiw ⊢
    repeat (first
      | (show _ ∧ _; exact ⟨rfl, rfl, rfl⟩)
      | refine wkP ?_
      | (show OpOk _ _ _ _ _ _ _; first | refine opB (fun b => ?_) | refine opA (fun a' c' hc1 hc2 => ?_))
      | (show GJ _ _ _ _ _ _ _; first | (apply GJ.and; exact rfl; intro hg) | (apply GJ.or; exact rfl; intro hg)))
    refine must_ok (t := t) (s := s4) 93 rfl (by decide) (hfin _ _ hRz hiw) ?_
    rw [hRz] at hk hRin
    dsimp only at hk hRin
    generalize mustS t 93 s4 = s5 at hk ⊢
    have hzin : SetIn (turnD tb z) := by
      cases tb with
      | true => exact SetIn.not _
      | false => exact hRin
    have hck : K (.agg (setV (turnD tb z)).toArray) ro (g (.blk q 71 (rsV t (if s5.e = 0 ∧ turnD tb z = zeroS then s5.wrong 160 a else s5)))) := hk
    cases tb with
    | true =>
      rw [show turnD true z = SetD.not z from rfl] at hck
      repeat (first
        | (show _ ∧ _; exact ⟨rfl, rfl, rfl⟩)
        | refine wkP ?_
        | (show OpOk _ _ _ _ _ _ _; first | refine opB (fun b => ?_) | refine opA (fun a' c' hc1 hc2 => ?_))
        | (show GJ _ _ _ _ _ _ _; first | (apply GJ.and; exact rfl; intro hg) | (apply GJ.or; exact rfl; intro hg)))
      refine not_ok hRin ?_
      repeat (first
        | (show _ ∧ _; exact ⟨rfl, rfl, rfl⟩)
        | refine wkP ?_
        | (show OpOk _ _ _ _ _ _ _; first | refine opB (fun b => ?_) | refine opA (fun a' c' hc1 hc2 => ?_))
        | (show GJ _ _ _ _ _ _ _; first | (apply GJ.and; exact rfl; intro hg) | (apply GJ.or; exact rfl; intro hg)))
      refine rok_ok (t := t) (s := s5) ?_
      by_cases he5 : s5.e = 0
      · rw [decide_eq_true (show (s5.e : Int) = 0 by omega)]
        repeat (first
          | (show _ ∧ _; exact ⟨rfl, rfl, rfl⟩)
          | refine wkP ?_
          | (show OpOk _ _ _ _ _ _ _; first | refine opB (fun b => ?_) | refine opA (fun a' c' hc1 hc2 => ?_))
          | (show GJ _ _ _ _ _ _ _; first | (apply GJ.and; exact rfl; intro hg) | (apply GJ.or; exact rfl; intro hg)))
        refine check_ok ?_
        by_cases hz0 : SetD.not z = zeroS
        · rw [if_pos ⟨he5, hz0⟩] at hck
          rw [if_pos (show SetD.not z = ⟨0, 0, 0, 0⟩ from hz0)]
          repeat (first
            | (show _ ∧ _; exact ⟨rfl, rfl, rfl⟩)
            | refine wkP ?_
            | (show OpOk _ _ _ _ _ _ _; first | refine opB (fun b => ?_) | refine opA (fun a' c' hc1 hc2 => ?_))
            | (show GJ _ _ _ _ _ _ _; first | (apply GJ.and; exact rfl; intro hg) | (apply GJ.or; exact rfl; intro hg)))
          refine rwrong_ok (t := t) (s := s5) 160 a rfl rfl ?_
          repeat (first
            | (show _ ∧ _; exact ⟨rfl, rfl, rfl⟩)
            | refine wkP ?_
            | (show OpOk _ _ _ _ _ _ _; first | refine opB (fun b => ?_) | refine opA (fun a' c' hc1 hc2 => ?_))
            | (show GJ _ _ _ _ _ _ _; first | (apply GJ.and; exact rfl; intro hg) | (apply GJ.or; exact rfl; intro hg)))
          exact Wk.outS Sup.auto (p2 _) hck
        · rw [if_neg (fun x => hz0 x.2)] at hck
          rw [if_neg (show ¬ SetD.not z = ⟨0, 0, 0, 0⟩ from hz0)]
          repeat (first
            | (show _ ∧ _; exact ⟨rfl, rfl, rfl⟩)
            | refine wkP ?_
            | (show OpOk _ _ _ _ _ _ _; first | refine opB (fun b => ?_) | refine opA (fun a' c' hc1 hc2 => ?_))
            | (show GJ _ _ _ _ _ _ _; first | (apply GJ.and; exact rfl; intro hg) | (apply GJ.or; exact rfl; intro hg)))
          exact Wk.outS Sup.auto (p2 _) hck
      · rw [decide_eq_false (show ¬ (s5.e : Int) = 0 by omega)]
        rw [if_neg (fun x => he5 x.1)] at hck
        repeat (first
          | (show _ ∧ _; exact ⟨rfl, rfl, rfl⟩)
          | refine wkP ?_
          | (show OpOk _ _ _ _ _ _ _; first | refine opB (fun b => ?_) | refine opA (fun a' c' hc1 hc2 => ?_))
          | (show GJ _ _ _ _ _ _ _; first | (apply GJ.and; exact rfl; intro hg) | (apply GJ.or; exact rfl; intro hg)))
        exact Wk.outS Sup.auto (p2 _) hck
    | false =>
      rw [show turnD false z = z from rfl] at hck
      repeat (first
        | (show _ ∧ _; exact ⟨rfl, rfl, rfl⟩)
        | refine wkP ?_
        | (show OpOk _ _ _ _ _ _ _; first | refine opB (fun b => ?_) | refine opA (fun a' c' hc1 hc2 => ?_))
        | (show GJ _ _ _ _ _ _ _; first | (apply GJ.and; exact rfl; intro hg) | (apply GJ.or; exact rfl; intro hg)))
      refine rok_ok (t := t) (s := s5) ?_
      by_cases he5 : s5.e = 0
      · rw [decide_eq_true (show (s5.e : Int) = 0 by omega)]
        repeat (first
          | (show _ ∧ _; exact ⟨rfl, rfl, rfl⟩)
          | refine wkP ?_
          | (show OpOk _ _ _ _ _ _ _; first | refine opB (fun b => ?_) | refine opA (fun a' c' hc1 hc2 => ?_))
          | (show GJ _ _ _ _ _ _ _; first | (apply GJ.and; exact rfl; intro hg) | (apply GJ.or; exact rfl; intro hg)))
        refine check_ok ?_
        by_cases hz0 : z = zeroS
        · rw [if_pos ⟨he5, hz0⟩] at hck
          rw [if_pos (show z = ⟨0, 0, 0, 0⟩ from hz0)]
          repeat (first
            | (show _ ∧ _; exact ⟨rfl, rfl, rfl⟩)
            | refine wkP ?_
            | (show OpOk _ _ _ _ _ _ _; first | refine opB (fun b => ?_) | refine opA (fun a' c' hc1 hc2 => ?_))
            | (show GJ _ _ _ _ _ _ _; first | (apply GJ.and; exact rfl; intro hg) | (apply GJ.or; exact rfl; intro hg)))
          refine rwrong_ok (t := t) (s := s5) 160 a rfl rfl ?_
          repeat (first
            | (show _ ∧ _; exact ⟨rfl, rfl, rfl⟩)
            | refine wkP ?_
            | (show OpOk _ _ _ _ _ _ _; first | refine opB (fun b => ?_) | refine opA (fun a' c' hc1 hc2 => ?_))
            | (show GJ _ _ _ _ _ _ _; first | (apply GJ.and; exact rfl; intro hg) | (apply GJ.or; exact rfl; intro hg)))
          exact Wk.outS Sup.auto (p2 _) hck
        · rw [if_neg (fun x => hz0 x.2)] at hck
          rw [if_neg (show ¬ z = ⟨0, 0, 0, 0⟩ from hz0)]
          repeat (first
            | (show _ ∧ _; exact ⟨rfl, rfl, rfl⟩)
            | refine wkP ?_
            | (show OpOk _ _ _ _ _ _ _; first | refine opB (fun b => ?_) | refine opA (fun a' c' hc1 hc2 => ?_))
            | (show GJ _ _ _ _ _ _ _; first | (apply GJ.and; exact rfl; intro hg) | (apply GJ.or; exact rfl; intro hg)))
          exact Wk.outS Sup.auto (p2 _) hck
      · rw [decide_eq_false (show ¬ (s5.e : Int) = 0 by omega)]
        rw [if_neg (fun x => he5 x.1)] at hck
        repeat (first
          | (show _ ∧ _; exact ⟨rfl, rfl, rfl⟩)
          | refine wkP ?_
          | (show OpOk _ _ _ _ _ _ _; first | refine opB (fun b => ?_) | refine opA (fun a' c' hc1 hc2 => ?_))
          | (show GJ _ _ _ _ _ _ _; first | (apply GJ.and; exact rfl; intro hg) | (apply GJ.or; exact rfl; intro hg)))
        exact Wk.outS Sup.auto (p2 _) hck
  rw [if_neg hz] at i1
  repeat (first
    | (show _ ∧ _; exact ⟨rfl, rfl, rfl⟩)
    | refine wkP ?_
    | (show OpOk _ _ _ _ _ _ _; first | refine opB (fun b => ?_) | refine opA (fun a' c' hc1 hc2 => ?_))
    | (show GJ _ _ _ _ _ _ _; first | (apply GJ.and; exact rfl; intro hg) | (apply GJ.or; exact rfl; intro hg)))
  refine byte_ok (t := t) (s := s1) (by omega) ?_
  repeat (first
    | (show _ ∧ _; exact ⟨rfl, rfl, rfl⟩)
    | refine wkP ?_
    | (show OpOk _ _ _ _ _ _ _; first | refine opB (fun b => ?_) | refine opA (fun a' c' hc1 hc2 => ?_))
    | (show GJ _ _ _ _ _ _ _; first | (apply GJ.and; exact rfl; intro hg) | (apply GJ.or; exact rfl; intro hg)))
  refine eat_ok (t := t) (s := (byteD t s1).2) 45 rfl (by decide) (by have := byteD_p (t := t) (s := s1); omega) ?_
  have hmore := pair_more i3 he
  have hi3 := i3.pair
  obtain ⟨hc2, hd2⟩ := pairD_lt (t := t) (s := s1)
  by_cases h45 : peekD t (byteD t s1).2 = 45
  · have e1 : pairD t s1 = (((byteD t s1).1, (byteD t (byteD t s1).2.adv).1), (byteD t (byteD t s1).2.adv).2) := by unfold pairD; rw [if_pos h45]
    rw [decide_eq_true h45, eatS, if_pos h45]
    repeat (first
      | (show _ ∧ _; exact ⟨rfl, rfl, rfl⟩)
      | refine wkP ?_
      | (show OpOk _ _ _ _ _ _ _; first | refine opB (fun b => ?_) | refine opA (fun a' c' hc1 hc2 => ?_))
      | (show GJ _ _ _ _ _ _ _; first | (apply GJ.and; exact rfl; intro hg) | (apply GJ.or; exact rfl; intro hg)))
    refine byte_ok (t := t) (s := (byteD t s1).2.adv) (by have := byteD_p (t := t) (s := s1); show (byteD t s1).2.p + 1 ≤ _; omega) ?_
    rw [e1] at i1 hmore hi3 hc2 hd2
    dsimp only at i1 hmore hi3 hc2 hd2
    generalize (byteD t (byteD t s1).2.adv).2 = s3 at i1 hmore hi3 ⊢
    generalize (byteD t (byteD t s1).2.adv).1 = d2 at i1 hd2 ⊢
    generalize (byteD t s1).1 = c2 at i1 hc2 ⊢
    repeat (first
      | (show _ ∧ _; exact ⟨rfl, rfl, rfl⟩)
      | refine wkP ?_
      | (show OpOk _ _ _ _ _ _ _; first | refine opB (fun b => ?_) | refine opA (fun a' c' hc1 hc2 => ?_))
      | (show GJ _ _ _ _ _ _ _; first | (apply GJ.and; exact rfl; intro hg) | (apply GJ.or; exact rfl; intro hg)))
    by_cases hlt : d2 < c2
    · rw [if_pos hlt] at i1
      repeat (first
        | (show _ ∧ _; exact ⟨rfl, rfl, rfl⟩)
        | refine wkP ?_
        | (show OpOk _ _ _ _ _ _ _; first | refine opB (fun b => ?_) | refine opA (fun a' c' hc1 hc2 => ?_))
        | (show GJ _ _ _ _ _ _ _; first | (apply GJ.and; exact rfl; intro hg) | (apply GJ.or; exact rfl; intro hg)))
      refine rwrong_ok (t := t) (s := s3) 1 a rfl rfl ?_
      repeat (first
        | (show _ ∧ _; exact ⟨rfl, rfl, rfl⟩)
        | refine wkP ?_
        | (show OpOk _ _ _ _ _ _ _; first | refine opB (fun b => ?_) | refine opA (fun a' c' hc1 hc2 => ?_))
        | (show GJ _ _ _ _ _ _ _; first | (apply GJ.and; exact rfl; intro hg) | (apply GJ.or; exact rfl; intro hg)))
      refine rangeD_ok hc2 hd2 ?_
      repeat (first
        | (show _ ∧ _; exact ⟨rfl, rfl, rfl⟩)
        | refine wkP ?_
        | (show OpOk _ _ _ _ _ _ _; first | refine opB (fun b => ?_) | refine opA (fun a' c' hc1 hc2 => ?_))
        | (show GJ _ _ _ _ _ _ _; first | (apply GJ.and; exact rfl; intro hg) | (apply GJ.or; exact rfl; intro hg)))
      refine or_ok i2 (range_in c2 d2) ?_
      repeat (first
        | (show _ ∧ _; exact ⟨rfl, rfl, rfl⟩)
        | refine wkP ?_
        | (show OpOk _ _ _ _ _ _ _; first | refine opB (fun b => ?_) | refine opA (fun a' c' hc1 hc2 => ?_))
        | (show GJ _ _ _ _ _ _ _; first | (apply GJ.and; exact rfl; intro hg) | (apply GJ.or; exact rfl; intro hg)))
      refine Wk.id ⟨(k, z.or (rangeD c2 d2), s3.wrong 1 a), ⟨rfl, ?_⟩, ?_, Sub.auto, Sup.auto⟩
      all_goals try dsimp only
      · exact ⟨i1, i2.or (range_in _ _), hi3.wrong (.inl rfl) (fun _ => ha), fun h => (wrong_ne (by decide) h).elim⟩
      · omega
    · rw [if_neg hlt] at i1
      repeat (first
        | (show _ ∧ _; exact ⟨rfl, rfl, rfl⟩)
        | refine wkP ?_
        | (show OpOk _ _ _ _ _ _ _; first | refine opB (fun b => ?_) | refine opA (fun a' c' hc1 hc2 => ?_))
        | (show GJ _ _ _ _ _ _ _; first | (apply GJ.and; exact rfl; intro hg) | (apply GJ.or; exact rfl; intro hg)))
      refine rangeD_ok hc2 hd2 ?_
      repeat (first
        | (show _ ∧ _; exact ⟨rfl, rfl, rfl⟩)
        | refine wkP ?_
        | (show OpOk _ _ _ _ _ _ _; first | refine opB (fun b => ?_) | refine opA (fun a' c' hc1 hc2 => ?_))
        | (show GJ _ _ _ _ _ _ _; first | (apply GJ.and; exact rfl; intro hg) | (apply GJ.or; exact rfl; intro hg)))
      refine or_ok i2 (range_in c2 d2) ?_
      repeat (first
        | (show _ ∧ _; exact ⟨rfl, rfl, rfl⟩)
        | refine wkP ?_
        | (show OpOk _ _ _ _ _ _ _; first | refine opB (fun b => ?_) | refine opA (fun a' c' hc1 hc2 => ?_))
        | (show GJ _ _ _ _ _ _ _; first | (apply GJ.and; exact rfl; intro hg) | (apply GJ.or; exact rfl; intro hg)))
      refine Wk.id ⟨(k, z.or (rangeD c2 d2), s3), ⟨rfl, ?_⟩, ?_, Sub.auto, Sup.auto⟩
      all_goals try dsimp only
      · exact ⟨i1, i2.or (range_in _ _), hi3, fun h => by have := hmore h; omega⟩
      · omega
  · have e1 : pairD t s1 = (((byteD t s1).1, (byteD t s1).1), (byteD t s1).2) := by unfold pairD; rw [if_neg h45]
    rw [decide_eq_false h45, eatS, if_neg h45]
    rw [e1] at i1 hmore hi3 hc2 hd2
    dsimp only at i1 hmore hi3 hc2 hd2
    generalize (byteD t s1).2 = s3 at i1 hmore hi3 ⊢
    generalize (byteD t s1).1 = c2 at i1 hc2 hd2 ⊢
    have hlt : ¬ c2 < c2 := Nat.lt_irrefl _
    rw [if_neg hlt] at i1
    repeat (first
      | (show _ ∧ _; exact ⟨rfl, rfl, rfl⟩)
      | refine wkP ?_
      | (show OpOk _ _ _ _ _ _ _; first | refine opB (fun b => ?_) | refine opA (fun a' c' hc1 hc2 => ?_))
      | (show GJ _ _ _ _ _ _ _; first | (apply GJ.and; exact rfl; intro hg) | (apply GJ.or; exact rfl; intro hg)))
    refine rangeD_ok hc2 hd2 ?_
    repeat (first
      | (show _ ∧ _; exact ⟨rfl, rfl, rfl⟩)
      | refine wkP ?_
      | (show OpOk _ _ _ _ _ _ _; first | refine opB (fun b => ?_) | refine opA (fun a' c' hc1 hc2 => ?_))
      | (show GJ _ _ _ _ _ _ _; first | (apply GJ.and; exact rfl; intro hg) | (apply GJ.or; exact rfl; intro hg)))
    refine or_ok i2 (range_in c2 c2) ?_
    repeat (first
      | (show _ ∧ _; exact ⟨rfl, rfl, rfl⟩)
      | refine wkP ?_
      | (show OpOk _ _ _ _ _ _ _; first | refine opB (fun b => ?_) | refine opA (fun a' c' hc1 hc2 => ?_))
      | (show GJ _ _ _ _ _ _ _; first | (apply GJ.and; exact rfl; intro hg) | (apply GJ.or; exact rfl; intro hg)))
    refine Wk.id ⟨(k, z.or (rangeD c2 c2), s3), ⟨rfl, ?_⟩, ?_, Sub.auto, Sup.auto⟩
    all_goals try dsimp only
    · exact ⟨i1, i2.or (range_in _ _), hi3, fun h => by have := hmore h; omega⟩
    · omega
end
end Go.Proofs.Ytkpdnpcmeadggaa
