/- Contracts of regex: count, counts. -/
import Derived.Test.YtkpdnpcmeadggaaRg2
import Derived.Test.YtkpdnpcmeadggaaRg4
import Derived.Test.YtkpdnpcmeadggaaRxx
namespace Go.Proofs.Ytkpdnpcmeadggaa
open Go Go.E
set_option linter.unusedVariables false
set_option linter.unusedSimpArgs false
set_option maxRecDepth 10000
theorem dropW {α : Type} {p : α → Bool} : ∀ {l q : List α} {x : α}, l.dropWhile p = x :: q → p x = false
  | [], _, _, h => by cases h
  | y :: l, q, x, h => by
    rw [List.dropWhile_cons] at h
    split at h
    · exact dropW h
    · rename_i hy; cases h; simpa using hy
theorem peek_digs {t : List UInt8} {s : RS} {j : Nat} (h0 : s.e = 0) (hj : j ≤ (digsOf (t.drop s.p)).length) : isDig (peekD t { s with p := s.p + j }) = decide (j < (digsOf (t.drop s.p)).length) := by
  have h3 : t.drop s.p = digsOf (t.drop s.p) ++ (t.drop s.p).dropWhile (fun c => isDig c.toNat) := List.takeWhile_append_dropWhile.symm
  have hall := digs_all (t.drop s.p)
  have h4 : ∀ x q, (t.drop s.p).dropWhile (fun c => isDig c.toNat) = x :: q → isDig x.toNat = false := fun x q h => dropW (p := fun c : UInt8 => isDig c.toNat) h
  generalize digsOf (t.drop s.p) = ds at h3 hj hall ⊢
  generalize (t.drop s.p).dropWhile (fun c => isDig c.toNat) = rs at h3 h4
  have h5 : t.drop (s.p + j) = ds.drop j ++ rs := by rw [← List.drop_drop, h3, List.drop_append_of_le_length hj]
  rcases Nat.lt_or_ge j ds.length with hlt | hge
  · rw [decide_eq_true hlt]
    have h6 : t.drop (s.p + j) = ds[j] :: (ds.drop (j + 1) ++ rs) := by rw [h5, List.drop_eq_getElem_cons hlt]; rfl
    rw [peek_at (s := { s with p := s.p + j }) h0 h6]
    exact hall _ (List.getElem_mem hlt)
  · rw [decide_eq_false (by omega)]
    rw [List.drop_eq_nil_of_le hge, List.nil_append] at h5
    cases rs with
    | nil => rw [peek_end (s := { s with p := s.p + j }) h5]; rfl
    | cons x q => rw [peek_at (s := { s with p := s.p + j }) h0 h5]; exact h4 x q rfl
section
variable {ro : Ro} {own r : Chs} {K : Value → Ro → Chs → Prop} {g : Chunk → Chs} {q : Nat} {t : List UInt8}
set_option maxHeartbeats 4000000 in
theorem rcount_ok {s : RS} [hb : HasBlk own q 71 (rsV t s) g] (h0 : s.e = 0) (hp : s.p ≤ t.length) (hl : t.length ≤ 10000) (hk : K (.int .i64 ((countD t s).1 : Int)) ro (g (.blk q 71 (rsV t (countD t s).2)))) :
    CallOk Try.prog 66 #[ptr' q] ro own K := by
  obtain ⟨r, p1, p2⟩ := hb.split
  refine CallOk.perm p1 ?_
  have hdl := digs_le (t.drop s.p)
  rw [List.length_drop] at hdl
  have hall := digs_all (t.drop s.p)
  have hpk := fun j => peek_digs (t := t) (s := s) (j := j) h0
  have hcut : (t.drop s.p).take (digsOf (t.drop s.p)).length = digsOf (t.drop s.p) := by
    have h3 : t.drop s.p = digsOf (t.drop s.p) ++ (t.drop s.p).dropWhile (fun c => isDig c.toNat) := List.takeWhile_append_dropWhile.symm
    conv => lhs; rw [h3]
    rw [show (digsOf (digsOf (t.drop s.p) ++ (t.drop s.p).dropWhile (fun c => isDig c.toNat))) = digsOf (t.drop s.p) by rw [← h3]]
    simp
  unfold countD at hk
  dsimp only at hk
  generalize digsOf (t.drop s.p) = ds at hdl hall hpk hcut hk
  refine CallOk.intro (args := [_]) (rs := [_]) T_ok Try.func66 Try.call66 rfl rfl (by kernel_rfl) rfl rfl ?_
  repeat (first
    | (show _ ∧ _; exact ⟨rfl, rfl, rfl⟩)
    | refine wkP ?_
    | (show OpOk _ _ _ _ _ _ _; first | refine opB (fun b => ?_) | refine opA (fun a' c' hc1 hc2 => ?_))
    | (show GJ _ _ _ _ _ _ _; first | (apply GJ.and; exact rfl; intro hg) | (apply GJ.or; exact rfl; intro hg)))
  refine peek_ok (t := t) (s := s) ?_
  repeat (first
    | (show _ ∧ _; exact ⟨rfl, rfl, rfl⟩)
    | refine wkP ?_
    | (show OpOk _ _ _ _ _ _ _; first | refine opB (fun b => ?_) | refine opA (fun a' c' hc1 hc2 => ?_))
    | (show GJ _ _ _ _ _ _ _; first | (apply GJ.and; exact rfl; intro hg) | (apply GJ.or; exact rfl; intro hg)))
  refine LoopOk.at (ι := Nat) Keep.auto (fun j => [(4, .int .u8 (peekD t { s with p := s.p + j } : Int))]) (fun j => .blk q 71 (rsV t { s with p := s.p + j }) :: r) (fun j => j ≤ ds.length) (fun j => ds.length - j) 0 ?_ Sub.auto Sup.auto ?_
  · exact Nat.zero_le _
  rintro j j1
  dsimp only [List.cons_append, List.nil_append] at j1 ⊢
  have hd := hpk j j1
  have hlt := peek_lt t { s with p := s.p + j }
  by_cases hj : j < ds.length
  · rw [decide_eq_true hj] at hd
    simp only [isDig, Bool.and_eq_true, decide_eq_true_iff] at hd
    generalize peekD t { s with p := s.p + j } = c at hd hlt ⊢
    repeat (first
      | (show _ ∧ _; exact ⟨rfl, rfl, rfl⟩)
      | refine wkP ?_
      | (show OpOk _ _ _ _ _ _ _; first | refine opB (fun b => ?_) | refine opA (fun a' c' hc1 hc2 => ?_))
      | (show GJ _ _ _ _ _ _ _; first | (apply GJ.and; exact rfl; intro hg) | (apply GJ.or; exact rfl; intro hg)))
    have e1 : (.blk q 71 [str t, .int .i64 (((s.p + j : Nat) : Int) + 1), .int .i64 (s.n : Int), .int .i64 (s.e : Int), .int .i64 (s.f : Int)] : Chunk) = .blk q 71 (rsV t { s with p := s.p + (j + 1) }) := rfl
    rw [e1]
    refine peek_ok (t := t) (s := { s with p := s.p + (j + 1) }) ?_
    repeat (first
      | (show _ ∧ _; exact ⟨rfl, rfl, rfl⟩)
      | refine wkP ?_
      | (show OpOk _ _ _ _ _ _ _; first | refine opB (fun b => ?_) | refine opA (fun a' c' hc1 hc2 => ?_))
      | (show GJ _ _ _ _ _ _ _; first | (apply GJ.and; exact rfl; intro hg) | (apply GJ.or; exact rfl; intro hg)))
    refine Wk.id ⟨j + 1, ⟨rfl, ?_⟩, ?_, Sub.auto, Sup.auto⟩
    all_goals try dsimp only
    · omega
    · omega
  · obtain rfl : j = ds.length := by omega
    rw [decide_eq_false hj] at hd
    have hd : ¬ isDig (peekD t { s with p := s.p + ds.length }) = true := by rw [hd]; decide
    simp only [isDig, Bool.and_eq_true, decide_eq_true_iff] at hd
    generalize peekD t { s with p := s.p + ds.length } = c at hd hlt ⊢
    have hs1e : ({ s with p := s.p + ds.length } : RS).e = 0 := h0
    repeat (first
      | (show _ ∧ _; exact ⟨rfl, rfl, rfl⟩)
      | refine wkP ?_
      | (show OpOk _ _ _ _ _ _ _; first | refine opB (fun b => ?_) | refine opA (fun a' c' hc1 hc2 => ?_))
      | (show GJ _ _ _ _ _ _ _; first | (apply GJ.and; exact rfl; intro hg) | (apply GJ.or; exact rfl; intro hg)))
    rw [show ((s.p + ds.length : Nat) : Int).toNat - ((s.p : Nat) : Int).toNat = ds.length by omega, Int.toNat_natCast, hcut]
    refine wparse_ok (l := ds) (by omega) ?_
    have hall2 : allDig ds = true := by unfold allDig; rw [List.all_eq_true]; exact hall
    have hnum : numD ds = if badNum ds = true then (0, 5) else if 18446744073709551616 ≤ valOf ds then (0, 40) else (valOf ds, 0) := by
      unfold numD
      by_cases ha : badNum ds = true
      · rw [if_pos (.inl ha), if_pos ha]
      · rw [if_neg (fun x => x.elim ha (by rw [hall2]; decide)), if_neg ha]
    rw [hnum]
    by_cases hbn : badNum ds = true
    · rw [if_pos hbn] at hk ⊢
      repeat (first
        | (show _ ∧ _; exact ⟨rfl, rfl, rfl⟩)
        | refine wkP ?_
        | (show OpOk _ _ _ _ _ _ _; first | refine opB (fun b => ?_) | refine opA (fun a' c' hc1 hc2 => ?_))
        | (show GJ _ _ _ _ _ _ _; first | (apply GJ.and; exact rfl; intro hg) | (apply GJ.or; exact rfl; intro hg)))
      refine rwrong_ok (t := t) (s := { s with p := s.p + ds.length }) 5 s.p rfl rfl ?_
      repeat (first
        | (show _ ∧ _; exact ⟨rfl, rfl, rfl⟩)
        | refine wkP ?_
        | (show OpOk _ _ _ _ _ _ _; first | refine opB (fun b => ?_) | refine opA (fun a' c' hc1 hc2 => ?_))
        | (show GJ _ _ _ _ _ _ _; first | (apply GJ.and; exact rfl; intro hg) | (apply GJ.or; exact rfl; intro hg)))
      exact Wk.outS Sup.auto (p2 _) hk
    rw [if_neg hbn] at hk ⊢
    by_cases hbig : 18446744073709551616 ≤ valOf ds
    · rw [if_pos (show 256 < valOf ds by omega)] at hk
      rw [if_pos hbig]
      repeat (first
        | (show _ ∧ _; exact ⟨rfl, rfl, rfl⟩)
        | refine wkP ?_
        | (show OpOk _ _ _ _ _ _ _; first | refine opB (fun b => ?_) | refine opA (fun a' c' hc1 hc2 => ?_))
        | (show GJ _ _ _ _ _ _ _; first | (apply GJ.and; exact rfl; intro hg) | (apply GJ.or; exact rfl; intro hg)))
      refine wint_ok (n := 0) (m := 256) (by decide) (by decide) (fun _ => ?_) (fun h => absurd h (by decide))
      repeat (first
        | (show _ ∧ _; exact ⟨rfl, rfl, rfl⟩)
        | refine wkP ?_
        | (show OpOk _ _ _ _ _ _ _; first | refine opB (fun b => ?_) | refine opA (fun a' c' hc1 hc2 => ?_))
        | (show GJ _ _ _ _ _ _ _; first | (apply GJ.and; exact rfl; intro hg) | (apply GJ.or; exact rfl; intro hg)))
      refine rwrong_ok (t := t) (s := { s with p := s.p + ds.length }) 1 s.p rfl rfl ?_
      repeat (first
        | (show _ ∧ _; exact ⟨rfl, rfl, rfl⟩)
        | refine wkP ?_
        | (show OpOk _ _ _ _ _ _ _; first | refine opB (fun b => ?_) | refine opA (fun a' c' hc1 hc2 => ?_))
        | (show GJ _ _ _ _ _ _ _; first | (apply GJ.and; exact rfl; intro hg) | (apply GJ.or; exact rfl; intro hg)))
      exact Wk.outS Sup.auto (p2 _) hk
    rw [if_neg hbig]
    generalize valOf ds = v at hbig hk ⊢
    repeat (first
      | (show _ ∧ _; exact ⟨rfl, rfl, rfl⟩)
      | refine wkP ?_
      | (show OpOk _ _ _ _ _ _ _; first | refine opB (fun b => ?_) | refine opA (fun a' c' hc1 hc2 => ?_))
      | (show GJ _ _ _ _ _ _ _; first | (apply GJ.and; exact rfl; intro hg) | (apply GJ.or; exact rfl; intro hg)))
    refine wint_ok (n := v) (m := 256) (by omega) (by decide) (fun hle => ?_) (fun hgt => ?_)
    · rw [if_neg (by omega)] at hk
      repeat (first
        | (show _ ∧ _; exact ⟨rfl, rfl, rfl⟩)
        | refine wkP ?_
        | (show OpOk _ _ _ _ _ _ _; first | refine opB (fun b => ?_) | refine opA (fun a' c' hc1 hc2 => ?_))
        | (show GJ _ _ _ _ _ _ _; first | (apply GJ.and; exact rfl; intro hg) | (apply GJ.or; exact rfl; intro hg)))
      exact Wk.outS Sup.auto (p2 _) hk
    · rw [if_pos hgt] at hk
      repeat (first
        | (show _ ∧ _; exact ⟨rfl, rfl, rfl⟩)
        | refine wkP ?_
        | (show OpOk _ _ _ _ _ _ _; first | refine opB (fun b => ?_) | refine opA (fun a' c' hc1 hc2 => ?_))
        | (show GJ _ _ _ _ _ _ _; first | (apply GJ.and; exact rfl; intro hg) | (apply GJ.or; exact rfl; intro hg)))
      refine rwrong_ok (t := t) (s := { s with p := s.p + ds.length }) 1 s.p rfl rfl ?_
      repeat (first
        | (show _ ∧ _; exact ⟨rfl, rfl, rfl⟩)
        | refine wkP ?_
        | (show OpOk _ _ _ _ _ _ _; first | refine opB (fun b => ?_) | refine opA (fun a' c' hc1 hc2 => ?_))
        | (show GJ _ _ _ _ _ _ _; first | (apply GJ.and; exact rfl; intro hg) | (apply GJ.or; exact rfl; intro hg)))
      exact Wk.outS Sup.auto (p2 _) hk
theorem countD_p {s : RS} : (countD t s).2.p ≤ s.p + t.length := by
  have hdl := digs_le (t.drop s.p)
  rw [List.length_drop] at hdl
  have hw : ∀ (s1 : RS) (e f : Nat), (s1.wrong e f).p = s1.p := fun s1 e f => by unfold RS.wrong; split <;> rfl
  unfold countD
  dsimp only
  repeat' split
  all_goals (try rw [hw]); dsimp only; omega
theorem countD_le {s : RS} : (countD t s).1 ≤ 256 := by
  unfold countD
  dsimp only
  repeat' split
  all_goals dsimp only; omega
set_option maxHeartbeats 4000000 in
theorem rcounts_ok {s : RS} [hb : HasBlk own q 71 (rsV t s) g] (h0 : s.e = 0) (hp : s.p ≤ t.length) (hl : t.length ≤ 10000) (hk : K (.tuple #[.int .i64 ((countsD t s).1.1 : Int), .int .i64 (countsD t s).1.2]) ro (g (.blk q 71 (rsV t (countsD t s).2)))) :
    CallOk Try.prog 59 #[ptr' q] ro own K := by
  obtain ⟨r, p1, p2⟩ := hb.split
  refine CallOk.perm p1 ?_
  have hcp := countD_p (t := t) (s := s)
  have hcl := countD_le (t := t) (s := s)
  unfold countsD at hk
  dsimp only at hk
  refine CallOk.intro (args := [_]) (rs := [_, _]) T_ok Try.func59 Try.call59 rfl rfl (by kernel_rfl) rfl rfl ?_
  repeat (first
    | (show _ ∧ _; exact ⟨rfl, rfl, rfl⟩)
    | refine wkP ?_
    | (show OpOk _ _ _ _ _ _ _; first | refine opB (fun b => ?_) | refine opA (fun a' c' hc1 hc2 => ?_))
    | (show GJ _ _ _ _ _ _ _; first | (apply GJ.and; exact rfl; intro hg) | (apply GJ.or; exact rfl; intro hg)))
  refine rcount_ok (t := t) (s := s) h0 hp hl ?_
  obtain ⟨lo, hlo⟩ : ∃ z, z = (countD t s).1 := ⟨_, rfl⟩
  obtain ⟨s1, hs1⟩ : ∃ z, z = (countD t s).2 := ⟨_, rfl⟩
  rw [← hlo] at hcl
  rw [← hs1] at hcp
  rw [← hlo, ← hs1] at hk ⊢
  repeat (first
    | (show _ ∧ _; exact ⟨rfl, rfl, rfl⟩)
    | refine wkP ?_
    | (show OpOk _ _ _ _ _ _ _; first | refine opB (fun b => ?_) | refine opA (fun a' c' hc1 hc2 => ?_))
    | (show GJ _ _ _ _ _ _ _; first | (apply GJ.and; exact rfl; intro hg) | (apply GJ.or; exact rfl; intro hg)))
  refine eat_ok (t := t) (s := s1) 44 rfl (by decide) (by omega) ?_
  by_cases h44 : peekD t s1 = 44
  · rw [if_pos h44] at hk
    rw [decide_eq_true h44, eatS, if_pos h44]
    have hpp := peek_pos (t := t) (s := s1) (by rw [h44]; decide)
    repeat (first
      | (show _ ∧ _; exact ⟨rfl, rfl, rfl⟩)
      | refine wkP ?_
      | (show OpOk _ _ _ _ _ _ _; first | refine opB (fun b => ?_) | refine opA (fun a' c' hc1 hc2 => ?_))
      | (show GJ _ _ _ _ _ _ _; first | (apply GJ.and; exact rfl; intro hg) | (apply GJ.or; exact rfl; intro hg)))
    refine peek_ok (t := t) (s := s1.adv) ?_
    by_cases h125 : peekD t s1.adv = 125
    · rw [if_pos h125] at hk
      dsimp only at hk
      rw [if_neg (by omega)] at hk
      rw [h125]
      repeat (first
        | (show _ ∧ _; exact ⟨rfl, rfl, rfl⟩)
        | refine wkP ?_
        | (show OpOk _ _ _ _ _ _ _; first | refine opB (fun b => ?_) | refine opA (fun a' c' hc1 hc2 => ?_))
        | (show GJ _ _ _ _ _ _ _; first | (apply GJ.and; exact rfl; intro hg) | (apply GJ.or; exact rfl; intro hg)))
      refine must_ok (t := t) (s := s1.adv) 125 rfl (by decide) (by show s1.p + 1 ≤ _; omega) ?_
      repeat (first
        | (show _ ∧ _; exact ⟨rfl, rfl, rfl⟩)
        | refine wkP ?_
        | (show OpOk _ _ _ _ _ _ _; first | refine opB (fun b => ?_) | refine opA (fun a' c' hc1 hc2 => ?_))
        | (show GJ _ _ _ _ _ _ _; first | (apply GJ.and; exact rfl; intro hg) | (apply GJ.or; exact rfl; intro hg)))
      exact Wk.outS Sup.auto (p2 _) hk
    · rw [if_neg h125] at hk
      dsimp only at hk
      have hcp2 := countD_p (t := t) (s := s1.adv)
      have hcl2 := countD_le (t := t) (s := s1.adv)
      have hap : s1.adv.p = s1.p + 1 := rfl
      have h125' : ¬ (peekD t s1.adv : Int) = 125 := by omega
      generalize peekD t s1.adv = c at h125' ⊢
      repeat (first
        | (show _ ∧ _; exact ⟨rfl, rfl, rfl⟩)
        | refine wkP ?_
        | (show OpOk _ _ _ _ _ _ _; first | refine opB (fun b => ?_) | refine opA (fun a' c' hc1 hc2 => ?_))
        | (show GJ _ _ _ _ _ _ _; first | (apply GJ.and; exact rfl; intro hg) | (apply GJ.or; exact rfl; intro hg)))
      refine rcount_ok (t := t) (s := s1.adv) hpp.1 (by omega) hl ?_
      generalize (countD t s1.adv).1 = hi at hk hcl2 ⊢
      generalize (countD t s1.adv).2 = s2 at hk hcp2 ⊢
      repeat (first
        | (show _ ∧ _; exact ⟨rfl, rfl, rfl⟩)
        | refine wkP ?_
        | (show OpOk _ _ _ _ _ _ _; first | refine opB (fun b => ?_) | refine opA (fun a' c' hc1 hc2 => ?_))
        | (show GJ _ _ _ _ _ _ _; first | (apply GJ.and; exact rfl; intro hg) | (apply GJ.or; exact rfl; intro hg)))
      refine must_ok (t := t) (s := s2) 125 rfl (by decide) (by omega) ?_
      by_cases hlt : hi < lo
      · rw [if_pos (by omega)] at hk
        repeat (first
          | (show _ ∧ _; exact ⟨rfl, rfl, rfl⟩)
          | refine wkP ?_
          | (show OpOk _ _ _ _ _ _ _; first | refine opB (fun b => ?_) | refine opA (fun a' c' hc1 hc2 => ?_))
          | (show GJ _ _ _ _ _ _ _; first | (apply GJ.and; exact rfl; intro hg) | (apply GJ.or; exact rfl; intro hg)))
        refine rwrong_ok (t := t) (s := mustS t 125 s2) 1 s.p rfl rfl ?_
        repeat (first
          | (show _ ∧ _; exact ⟨rfl, rfl, rfl⟩)
          | refine wkP ?_
          | (show OpOk _ _ _ _ _ _ _; first | refine opB (fun b => ?_) | refine opA (fun a' c' hc1 hc2 => ?_))
          | (show GJ _ _ _ _ _ _ _; first | (apply GJ.and; exact rfl; intro hg) | (apply GJ.or; exact rfl; intro hg)))
        exact Wk.outS Sup.auto (p2 _) hk
      · rw [if_neg (by omega)] at hk
        repeat (first
          | (show _ ∧ _; exact ⟨rfl, rfl, rfl⟩)
          | refine wkP ?_
          | (show OpOk _ _ _ _ _ _ _; first | refine opB (fun b => ?_) | refine opA (fun a' c' hc1 hc2 => ?_))
          | (show GJ _ _ _ _ _ _ _; first | (apply GJ.and; exact rfl; intro hg) | (apply GJ.or; exact rfl; intro hg)))
        exact Wk.outS Sup.auto (p2 _) hk
  · rw [if_neg h44] at hk
    dsimp only at hk
    rw [if_neg (by omega)] at hk
    rw [decide_eq_false h44, eatS, if_neg h44]
    repeat (first
      | (show _ ∧ _; exact ⟨rfl, rfl, rfl⟩)
      | refine wkP ?_
      | (show OpOk _ _ _ _ _ _ _; first | refine opB (fun b => ?_) | refine opA (fun a' c' hc1 hc2 => ?_))
      | (show GJ _ _ _ _ _ _ _; first | (apply GJ.and; exact rfl; intro hg) | (apply GJ.or; exact rfl; intro hg)))
    refine must_ok (t := t) (s := s1) 125 rfl (by decide) (by omega) ?_
    repeat (first
      | (show _ ∧ _; exact ⟨rfl, rfl, rfl⟩)
      | refine wkP ?_
      | (show OpOk _ _ _ _ _ _ _; first | refine opB (fun b => ?_) | refine opA (fun a' c' hc1 hc2 => ?_))
      | (show GJ _ _ _ _ _ _ _; first | (apply GJ.and; exact rfl; intro hg) | (apply GJ.or; exact rfl; intro hg)))
    exact Wk.outS Sup.auto (p2 _) hk
end
end Go.Proofs.Ytkpdnpcmeadggaa
