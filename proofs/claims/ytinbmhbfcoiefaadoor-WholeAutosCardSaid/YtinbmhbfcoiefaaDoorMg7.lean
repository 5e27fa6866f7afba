/- Texts of a walk, one behind the other. -/
import Derived.Shelf.Sort.Plain
import Derived.Shelf.Slices.In.SortNone
import Derived.Ground.NamesProg
import Derived.Test.YtinbmhbfcoiefaaDoorMg3
import Derived.Test.YtinbmhbfcoiefaaDoorMg4
import Derived.Test.YtinbmhbfcoiefaaDoorMg6
section
/- Contracts of regex: count, counts. -/
namespace Go.Proofs.YtinbmhbfcoiefaaDoor
open Go Go.E
set_option linter.unusedVariables false
set_option linter.unusedSimpArgs false
set_option maxRecDepth 10000
theorem dropW {α : Type} {p : α → Bool} : ∀ {l q : List α} {x : α}, l.dropWhile p = x :: q → p x = false
  | [], _, _, h => by cases h
  | y :: l, q, x, h => by
    rw [List.dropWhile_cons] at h
    split at h
    · exact dropW h
    · rename_i hy; cases h; simpa using hy
theorem peek_digs {t : List UInt8} {s : RS} {j : Nat} (h0 : s.e = 0) (hj : j ≤ (digsOf (t.drop s.p)).length) : isDig (peekD t { s with p := s.p + j }) = decide (j < (digsOf (t.drop s.p)).length) := by
  have h3 : t.drop s.p = digsOf (t.drop s.p) ++ (t.drop s.p).dropWhile (fun c => isDig c.toNat) := List.takeWhile_append_dropWhile.symm
  have hall := digs_all (t.drop s.p)
  have h4 : ∀ x q, (t.drop s.p).dropWhile (fun c => isDig c.toNat) = x :: q → isDig x.toNat = false := fun x q h => dropW (p := fun c : UInt8 => isDig c.toNat) h
  generalize digsOf (t.drop s.p) = ds at h3 hj hall ⊢
  generalize (t.drop s.p).dropWhile (fun c => isDig c.toNat) = rs at h3 h4
  have h5 : t.drop (s.p + j) = ds.drop j ++ rs := by rw [← List.drop_drop, h3, List.drop_append_of_le_length hj]
  rcases Nat.lt_or_ge j ds.length with hlt | hge
  · rw [decide_eq_true hlt]
    have h6 : t.drop (s.p + j) = ds[j] :: (ds.drop (j + 1) ++ rs) := by rw [h5, List.drop_eq_getElem_cons hlt]; rfl
    rw [peek_at (s := { s with p := s.p + j }) h0 h6]
    exact hall _ (List.getElem_mem hlt)
  · rw [decide_eq_false (by omega)]
    rw [List.drop_eq_nil_of_le hge, List.nil_append] at h5
    cases rs with
    | nil => rw [peek_end (s := { s with p := s.p + j }) h5]; rfl
    | cons x q => rw [peek_at (s := { s with p := s.p + j }) h0 h5]; exact h4 x q rfl
section
variable {ro : Ro} {own r : Chs} {K : Value → Ro → Chs → Prop} {g : Chunk → Chs} {q : Nat} {t : List UInt8}
set_option maxHeartbeats 4000000 in
theorem rcount_ok {s : RS} [hb : HasBlk own q 56 (rsV t s) g] (h0 : s.e = 0) (hp : s.p ≤ t.length) (hl : t.length ≤ 10000) (hk : K (.int .i64 ((countD t s).1 : Int)) ro (g (.blk q 56 (rsV t (countD t s).2)))) :
    CallOk Tryd.prog 73 #[ptr' q] ro own K := by
  obtain ⟨r, p1, p2⟩ := hb.split
  refine CallOk.perm p1 ?_
  have hdl := digs_le (t.drop s.p)
  rw [List.length_drop] at hdl
  have hall := digs_all (t.drop s.p)
  have hpk := fun j => peek_digs (t := t) (s := s) (j := j) h0
  have hcut : (t.drop s.p).take (digsOf (t.drop s.p)).length = digsOf (t.drop s.p) := by
    have h3 : t.drop s.p = digsOf (t.drop s.p) ++ (t.drop s.p).dropWhile (fun c => isDig c.toNat) := List.takeWhile_append_dropWhile.symm
    conv => lhs; rw [h3]
    rw [show (digsOf (digsOf (t.drop s.p) ++ (t.drop s.p).dropWhile (fun c => isDig c.toNat))) = digsOf (t.drop s.p) by rw [← h3]]
    simp
  unfold countD at hk
  dsimp only at hk
  generalize digsOf (t.drop s.p) = ds at hdl hall hpk hcut hk
  refine CallOk.intro (args := [_]) (rs := [_]) T_ok Tryd.func73 Tryd.call73 rfl rfl (by kernel_rfl) rfl rfl ?_
  repeat (first | exact endA | refine wkP ?_ | refine opB (fun b => ?_) | refine opA (fun a' c' hc1 hc2 => ?_) | (apply GJ.and; exact rfl; intro hg) | (apply GJ.or; exact rfl; intro hg))
  refine peek_ok (t := t) (s := s) ?_
  repeat (first | exact endA | refine wkP ?_ | refine opB (fun b => ?_) | refine opA (fun a' c' hc1 hc2 => ?_) | (apply GJ.and; exact rfl; intro hg) | (apply GJ.or; exact rfl; intro hg))
  refine LoopOk.at (ι := Nat) Keep.auto (fun j => [(4, .int .u8 (peekD t { s with p := s.p + j } : Int))]) (fun j => .blk q 56 (rsV t { s with p := s.p + j }) :: r) (fun j => j ≤ ds.length) (fun j => ds.length - j) 0 ?_ Sub.auto Sup.auto ?_
  · exact Nat.zero_le _
  rintro j j1
  dsimp only [List.cons_append, List.nil_append] at j1 ⊢
  have hd := hpk j j1
  have hlt := peek_lt t { s with p := s.p + j }
  by_cases hj : j < ds.length
  · rw [decide_eq_true hj] at hd
    simp only [isDig, Bool.and_eq_true, decide_eq_true_iff] at hd
    generalize peekD t { s with p := s.p + j } = c at hd hlt ⊢
    repeat (first | exact endA | refine wkP ?_ | refine opB (fun b => ?_) | refine opA (fun a' c' hc1 hc2 => ?_) | (apply GJ.and; exact rfl; intro hg) | (apply GJ.or; exact rfl; intro hg))
    have e1 : (.blk q 56 [str t, .int .i64 (((s.p + j : Nat) : Int) + 1), .int .i64 (s.n : Int), .int .i64 (s.e : Int), .int .i64 (s.f : Int)] : Chunk) = .blk q 56 (rsV t { s with p := s.p + (j + 1) }) := rfl
    rw [e1]
    refine peek_ok (t := t) (s := { s with p := s.p + (j + 1) }) ?_
    repeat (first | exact endA | refine wkP ?_ | refine opB (fun b => ?_) | refine opA (fun a' c' hc1 hc2 => ?_) | (apply GJ.and; exact rfl; intro hg) | (apply GJ.or; exact rfl; intro hg))
    refine Wk.id ⟨j + 1, ⟨rfl, ?_⟩, ?_, Sub.auto, Sup.auto⟩
    all_goals try dsimp only
    · omega
    · omega
  · obtain rfl : j = ds.length := by omega
    rw [decide_eq_false hj] at hd
    have hd : ¬ isDig (peekD t { s with p := s.p + ds.length }) = true := by rw [hd]; decide
    simp only [isDig, Bool.and_eq_true, decide_eq_true_iff] at hd
    generalize peekD t { s with p := s.p + ds.length } = c at hd hlt ⊢
    have hs1e : ({ s with p := s.p + ds.length } : RS).e = 0 := h0
    repeat (first | exact endA | refine wkP ?_ | refine opB (fun b => ?_) | refine opA (fun a' c' hc1 hc2 => ?_) | (apply GJ.and; exact rfl; intro hg) | (apply GJ.or; exact rfl; intro hg))
    rw [show ((s.p + ds.length : Nat) : Int).toNat - ((s.p : Nat) : Int).toNat = ds.length by omega, Int.toNat_natCast, hcut]
    refine wparse_ok (l := ds) (by omega) ?_
    have hall2 : allDig ds = true := by unfold allDig; rw [List.all_eq_true]; exact hall
    have hnum : numD ds = if badNum ds = true then (0, 5) else if 18446744073709551616 ≤ valOf ds then (0, 40) else (valOf ds, 0) := by
      unfold numD
      by_cases ha : badNum ds = true
      · rw [if_pos (.inl ha), if_pos ha]
      · rw [if_neg (fun x => x.elim ha (by rw [hall2]; decide)), if_neg ha]
    rw [hnum]
    by_cases hbn : badNum ds = true
    · rw [if_pos hbn] at hk ⊢
      repeat (first | exact endA | refine wkP ?_ | refine opB (fun b => ?_) | refine opA (fun a' c' hc1 hc2 => ?_) | (apply GJ.and; exact rfl; intro hg) | (apply GJ.or; exact rfl; intro hg))
      refine rwrong_ok (t := t) (s := { s with p := s.p + ds.length }) 5 s.p rfl rfl ?_
      repeat (first | exact endA | refine wkP ?_ | refine opB (fun b => ?_) | refine opA (fun a' c' hc1 hc2 => ?_) | (apply GJ.and; exact rfl; intro hg) | (apply GJ.or; exact rfl; intro hg))
      exact Wk.outS Sup.auto (p2 _) hk
    rw [if_neg hbn] at hk ⊢
    by_cases hbig : 18446744073709551616 ≤ valOf ds
    · rw [if_pos (show 256 < valOf ds by omega)] at hk
      rw [if_pos hbig]
      repeat (first | exact endA | refine wkP ?_ | refine opB (fun b => ?_) | refine opA (fun a' c' hc1 hc2 => ?_) | (apply GJ.and; exact rfl; intro hg) | (apply GJ.or; exact rfl; intro hg))
      refine wint_ok (n := 0) (m := 256) (by decide) (by decide) (fun _ => ?_) (fun h => absurd h (by decide))
      repeat (first | exact endA | refine wkP ?_ | refine opB (fun b => ?_) | refine opA (fun a' c' hc1 hc2 => ?_) | (apply GJ.and; exact rfl; intro hg) | (apply GJ.or; exact rfl; intro hg))
      refine rwrong_ok (t := t) (s := { s with p := s.p + ds.length }) 1 s.p rfl rfl ?_
      repeat (first | exact endA | refine wkP ?_ | refine opB (fun b => ?_) | refine opA (fun a' c' hc1 hc2 => ?_) | (apply GJ.and; exact rfl; intro hg) | (apply GJ.or; exact rfl; intro hg))
      exact Wk.outS Sup.auto (p2 _) hk
    rw [if_neg hbig]
    generalize valOf ds = v at hbig hk ⊢
    repeat (first | exact endA | refine wkP ?_ | refine opB (fun b => ?_) | refine opA (fun a' c' hc1 hc2 => ?_) | (apply GJ.and; exact rfl; intro hg) | (apply GJ.or; exact rfl; intro hg))
    refine wint_ok (n := v) (m := 256) (by omega) (by decide) (fun hle => ?_) (fun hgt => ?_)
    · rw [if_neg (by omega)] at hk
      repeat (first | exact endA | refine wkP ?_ | refine opB (fun b => ?_) | refine opA (fun a' c' hc1 hc2 => ?_) | (apply GJ.and; exact rfl; intro hg) | (apply GJ.or; exact rfl; intro hg))
      exact Wk.outS Sup.auto (p2 _) hk
    · rw [if_pos hgt] at hk
      repeat (first | exact endA | refine wkP ?_ | refine opB (fun b => ?_) | refine opA (fun a' c' hc1 hc2 => ?_) | (apply GJ.and; exact rfl; intro hg) | (apply GJ.or; exact rfl; intro hg))
      refine rwrong_ok (t := t) (s := { s with p := s.p + ds.length }) 1 s.p rfl rfl ?_
      repeat (first | exact endA | refine wkP ?_ | refine opB (fun b => ?_) | refine opA (fun a' c' hc1 hc2 => ?_) | (apply GJ.and; exact rfl; intro hg) | (apply GJ.or; exact rfl; intro hg))
      exact Wk.outS Sup.auto (p2 _) hk
theorem countD_p {s : RS} : (countD t s).2.p ≤ s.p + t.length := by
  have hdl := digs_le (t.drop s.p)
  rw [List.length_drop] at hdl
  have hw : ∀ (s1 : RS) (e f : Nat), (s1.wrong e f).p = s1.p := fun s1 e f => by unfold RS.wrong; split <;> rfl
  unfold countD
  dsimp only
  repeat' split
  all_goals (try rw [hw]); dsimp only; omega
theorem countD_le {s : RS} : (countD t s).1 ≤ 256 := by
  unfold countD
  dsimp only
  repeat' split
  all_goals dsimp only; omega
set_option maxHeartbeats 4000000 in
theorem rcounts_ok {s : RS} [hb : HasBlk own q 56 (rsV t s) g] (h0 : s.e = 0) (hp : s.p ≤ t.length) (hl : t.length ≤ 10000) (hk : K (.tuple #[.int .i64 ((countsD t s).1.1 : Int), .int .i64 (countsD t s).1.2]) ro (g (.blk q 56 (rsV t (countsD t s).2)))) :
    CallOk Tryd.prog 57 #[ptr' q] ro own K := by
  obtain ⟨r, p1, p2⟩ := hb.split
  refine CallOk.perm p1 ?_
  have hcp := countD_p (t := t) (s := s)
  have hcl := countD_le (t := t) (s := s)
  unfold countsD at hk
  dsimp only at hk
  refine CallOk.intro (args := [_]) (rs := [_, _]) T_ok Tryd.func57 Tryd.call57 rfl rfl (by kernel_rfl) rfl rfl ?_
  repeat (first | exact endA | refine wkP ?_ | refine opB (fun b => ?_) | refine opA (fun a' c' hc1 hc2 => ?_) | (apply GJ.and; exact rfl; intro hg) | (apply GJ.or; exact rfl; intro hg))
  refine rcount_ok (t := t) (s := s) h0 hp hl ?_
  obtain ⟨lo, hlo⟩ : ∃ z, z = (countD t s).1 := ⟨_, rfl⟩
  obtain ⟨s1, hs1⟩ : ∃ z, z = (countD t s).2 := ⟨_, rfl⟩
  rw [← hlo] at hcl
  rw [← hs1] at hcp
  rw [← hlo, ← hs1] at hk ⊢
  repeat (first | exact endA | refine wkP ?_ | refine opB (fun b => ?_) | refine opA (fun a' c' hc1 hc2 => ?_) | (apply GJ.and; exact rfl; intro hg) | (apply GJ.or; exact rfl; intro hg))
  refine eat_ok (t := t) (s := s1) 44 rfl (by decide) (by omega) ?_
  by_cases h44 : peekD t s1 = 44
  · rw [if_pos h44] at hk
    rw [decide_eq_true h44, eatS, if_pos h44]
    have hpp := peek_pos (t := t) (s := s1) (by rw [h44]; decide)
    repeat (first | exact endA | refine wkP ?_ | refine opB (fun b => ?_) | refine opA (fun a' c' hc1 hc2 => ?_) | (apply GJ.and; exact rfl; intro hg) | (apply GJ.or; exact rfl; intro hg))
    refine peek_ok (t := t) (s := s1.adv) ?_
    by_cases h125 : peekD t s1.adv = 125
    · rw [if_pos h125] at hk
      dsimp only at hk
      rw [if_neg (by omega)] at hk
      rw [h125]
      repeat (first | exact endA | refine wkP ?_ | refine opB (fun b => ?_) | refine opA (fun a' c' hc1 hc2 => ?_) | (apply GJ.and; exact rfl; intro hg) | (apply GJ.or; exact rfl; intro hg))
      refine must_ok (t := t) (s := s1.adv) 125 rfl (by decide) (by show s1.p + 1 ≤ _; omega) ?_
      repeat (first | exact endA | refine wkP ?_ | refine opB (fun b => ?_) | refine opA (fun a' c' hc1 hc2 => ?_) | (apply GJ.and; exact rfl; intro hg) | (apply GJ.or; exact rfl; intro hg))
      exact Wk.outS Sup.auto (p2 _) hk
    · rw [if_neg h125] at hk
      dsimp only at hk
      have hcp2 := countD_p (t := t) (s := s1.adv)
      have hcl2 := countD_le (t := t) (s := s1.adv)
      have hap : s1.adv.p = s1.p + 1 := rfl
      have h125' : ¬ (peekD t s1.adv : Int) = 125 := by omega
      generalize peekD t s1.adv = c at h125' ⊢
      repeat (first | exact endA | refine wkP ?_ | refine opB (fun b => ?_) | refine opA (fun a' c' hc1 hc2 => ?_) | (apply GJ.and; exact rfl; intro hg) | (apply GJ.or; exact rfl; intro hg))
      refine rcount_ok (t := t) (s := s1.adv) hpp.1 (by omega) hl ?_
      generalize (countD t s1.adv).1 = hi at hk hcl2 ⊢
      generalize (countD t s1.adv).2 = s2 at hk hcp2 ⊢
      repeat (first | exact endA | refine wkP ?_ | refine opB (fun b => ?_) | refine opA (fun a' c' hc1 hc2 => ?_) | (apply GJ.and; exact rfl; intro hg) | (apply GJ.or; exact rfl; intro hg))
      refine must_ok (t := t) (s := s2) 125 rfl (by decide) (by omega) ?_
      by_cases hlt : hi < lo
      · rw [if_pos (by omega)] at hk
        repeat (first | exact endA | refine wkP ?_ | refine opB (fun b => ?_) | refine opA (fun a' c' hc1 hc2 => ?_) | (apply GJ.and; exact rfl; intro hg) | (apply GJ.or; exact rfl; intro hg))
        refine rwrong_ok (t := t) (s := mustS t 125 s2) 1 s.p rfl rfl ?_
        repeat (first | exact endA | refine wkP ?_ | refine opB (fun b => ?_) | refine opA (fun a' c' hc1 hc2 => ?_) | (apply GJ.and; exact rfl; intro hg) | (apply GJ.or; exact rfl; intro hg))
        exact Wk.outS Sup.auto (p2 _) hk
      · rw [if_neg (by omega)] at hk
        repeat (first | exact endA | refine wkP ?_ | refine opB (fun b => ?_) | refine opA (fun a' c' hc1 hc2 => ?_) | (apply GJ.and; exact rfl; intro hg) | (apply GJ.or; exact rfl; intro hg))
        exact Wk.outS Sup.auto (p2 _) hk
  · rw [if_neg h44] at hk
    dsimp only at hk
    rw [if_neg (by omega)] at hk
    rw [decide_eq_false h44, eatS, if_neg h44]
    repeat (first | exact endA | refine wkP ?_ | refine opB (fun b => ?_) | refine opA (fun a' c' hc1 hc2 => ?_) | (apply GJ.and; exact rfl; intro hg) | (apply GJ.or; exact rfl; intro hg))
    refine must_ok (t := t) (s := s1) 125 rfl (by decide) (by omega) ?_
    repeat (first | exact endA | refine wkP ?_ | refine opB (fun b => ?_) | refine opA (fun a' c' hc1 hc2 => ?_) | (apply GJ.and; exact rfl; intro hg) | (apply GJ.or; exact rfl; intro hg))
    exact Wk.outS Sup.auto (p2 _) hk
end
end Go.Proofs.YtinbmhbfcoiefaaDoor
end
section
/- Expressions in memory; contracts of regex: atom. -/
namespace Go.Proofs.YtinbmhbfcoiefaaDoor
open Go Go.E
set_option linter.unusedVariables false
set_option linter.unusedSimpArgs false
set_option maxRecDepth 10000
mutual
def RgOk (ro : Ro) : RgD → List Value → Prop
  | .mk k z l x y, v => ∃ a c cs, v = nodeV k z a l.length c x y ∧ SetIn z ∧ Rs ro a l.length c 8 cs ∧ RgsOk ro l cs
def RgsOk (ro : Ro) : List RgD → List Value → Prop
  | [], cs => cs = []
  | n :: l, cs => ∃ v r, cs = v ++ r ∧ RgOk ro n v ∧ RgsOk ro l r
end

theorem RgOk.cells {ro : Ro} {n : RgD} {v : List Value} (h : RgOk ro n v) : ∃ a c, v = nodeV n.kind n.set a n.kids.length c n.min n.max := by
  obtain ⟨k, z, l, x, y⟩ := n
  rw [RgOk] at h
  obtain ⟨a, c, cs, h1, _⟩ := h
  exact ⟨a, c, h1⟩
theorem RgOk.len {ro : Ro} {n : RgD} {v : List Value} (h : RgOk ro n v) : v.length = 8 := by obtain ⟨a, c, rfl⟩ := h.cells; rfl
theorem RgsOk.len {ro : Ro} : ∀ {l : List RgD} {cs : List Value}, RgsOk ro l cs → cs.length = l.length * 8
  | [], cs, h => by rw [RgsOk] at h; subst h; rfl
  | n :: l, cs, h => by
    rw [RgsOk] at h
    obtain ⟨v, r, rfl, h1, h2⟩ := h
    rw [List.length_append, h1.len, RgsOk.len h2, List.length_cons]; omega
theorem RgsOk.snoc {ro : Ro} {n : RgD} {v : List Value} (hv : RgOk ro n v) : ∀ {l : List RgD} {cs : List Value}, RgsOk ro l cs → RgsOk ro (l ++ [n]) (cs ++ v)
  | [], cs, h => by
    rw [RgsOk] at h; subst h
    rw [List.nil_append, List.nil_append, RgsOk]
    exact ⟨v, [], by simp, hv, by rw [RgsOk]⟩
  | m :: l, cs, h => by
    rw [RgsOk] at h
    obtain ⟨u, r, rfl, h1, h2⟩ := h
    rw [List.cons_append, RgsOk]
    exact ⟨u, r ++ v, by rw [List.append_assoc], h1, RgsOk.snoc hv h2⟩
theorem RgsOk.get {ro : Ro} : ∀ {l : List RgD} {cs : List Value} {i : Nat} {n : RgD}, RgsOk ro l cs → l[i]? = some n → RgOk ro n ((cs.drop (i * 8)).take 8)
  | [], _, _, _, _, h => by simp at h
  | m :: l, cs, 0, n, h, hi => by
    rw [RgsOk] at h
    obtain ⟨u, r, rfl, h1, h2⟩ := h
    simp at hi; subst hi
    have := h1.len
    simpa [← this] using h1
  | m :: l, cs, i + 1, n, h, hi => by
    rw [RgsOk] at h
    obtain ⟨u, r, rfl, h1, h2⟩ := h
    have := RgsOk.get h2 (i := i) (by simpa using hi)
    rw [show (i + 1) * 8 = u.length + i * 8 by rw [h1.len]; omega, ← List.drop_drop]
    simpa using this
def LeOk (n : RgD) : Prop := ∀ {ro ro' : Ro} {v : List Value}, Le ro ro' → RgOk ro n v → RgOk ro' n v
theorem RgsOk.le' : ∀ {l : List RgD}, (∀ x ∈ l, LeOk x) → ∀ {ro ro' : Ro} {cs : List Value}, Le ro ro' → RgsOk ro l cs → RgsOk ro' l cs
  | [], _, _, _, _, _, h => by rw [RgsOk] at h ⊢; exact h
  | n :: l, hx, ro, ro', cs, hl, h => by
    rw [RgsOk] at h ⊢
    obtain ⟨v, r, rfl, h1, h2⟩ := h
    exact ⟨v, r, rfl, hx n (by simp) hl h1, RgsOk.le' (fun y hy => hx y (by simp [hy])) hl h2⟩
theorem leOk : ∀ n, LeOk n := RgD.ind fun k z l x y ih {ro ro' v} hl h => by
  rw [RgOk] at h ⊢
  obtain ⟨a, c, cs, h1, h2, h3, h4⟩ := h
  exact ⟨a, c, cs, h1, h2, h3.up, RgsOk.le' ih hl h4⟩
theorem RgOk.le {ro ro' : Ro} {n : RgD} {v : List Value} (h : RgOk ro n v) (hl : Le ro ro') : RgOk ro' n v := leOk n hl h
theorem RgsOk.le {ro ro' : Ro} {l : List RgD} {cs : List Value} (h : RgsOk ro l cs) (hl : Le ro ro') : RgsOk ro' l cs := RgsOk.le' (fun x _ => leOk x) hl h
theorem RgOk.leaf {ro : Ro} {k : Int} {z : SetD} {x y : Int} (hz : SetIn z) : RgOk ro (.mk k z [] x y) (nodeV k z none 0 0 x y) := by
  rw [RgOk]; exact ⟨none, 0, [], rfl, hz, Rs.nil ro 8, by rw [RgsOk]⟩
theorem setD_in {t : List UInt8} {a : Nat} {s : RS} : SetIn (setD t a s).1 := by
  unfold setD
  dsimp only
  unfold turnD
  split
  · exact SetIn.not _
  · exact setL_in zeroS_in
/-- What is asked of the reading of brackets. -/
def AltC (t : List UInt8) (d : Nat) : Prop := ∀ {ro : Ro} {own : Chs} {g : Chunk → Chs} {q : Nat} {s : RS} {K : Value → Ro → Chs → Prop}, HasBlk own q 56 (rsV t s) g → Inv t s → s.e = 0 → s.n ≤ 512 →
  (∀ ro' v, Le ro ro' → RgOk ro' (altD t d s).1 v → K (.agg v.toArray) ro' (g (.blk q 56 (rsV t (altD t d s).2)))) → CallOk Tryd.prog 18 #[ptr' q, .int .i64 (33 - (d : Int))] ro own K
section
variable {ro : Ro} {own r : Chs} {K : Value → Ro → Chs → Prop} {g : Chunk → Chs} {q : Nat} {t : List UInt8}
theorem ofD_ok {b : Nat} {x : Nat} (hx : x < 256) (hk : ∀ ro', Le ro ro' → K (.agg (setV (ofD x)).toArray) ro' r) : CallOk Tryd.prog 71 #[.slice (some ⟨b, 0, none⟩) 1 1] ro (.sl (some ⟨b, 0, none⟩) 1 1 5 1 [.int .u8 (x : Int)] :: r) K := by
  have hu : (UInt8.ofNat x).toNat = x := UInt8.toNat_ofNat_of_lt' hx
  refine CallOk.freeze (c := .sl (some ⟨b, 0, none⟩) _ _ _ _ _) Take.auto (fun ro1 hl1 hc1 => ?_)
  have hB : Bys ro1 (some ⟨b, 0, none⟩) [UInt8.ofNat x].length 1 [UInt8.ofNat x] := by
    have := Rs.last hc1
    show Rs ro1 _ 1 1 1 [.int .u8 ((UInt8.ofNat x).toNat : Int)]
    rw [hu]; exact this
  refine of_ok (l := [UInt8.ofNat x]) hB (by simp) (fun s h1 h2 => ?_)
  have : s = ofD x := SetD.ext h1 (of_in hx) fun d hd => by
    have e := h2 (UInt8.ofNat d)
    rw [UInt8.toNat_ofNat_of_lt' hd] at e
    rw [e, of_has hx hd, decide_eq_decide, List.mem_singleton]
    constructor
    · intro h; have := congrArg UInt8.toNat h; rwa [UInt8.toNat_ofNat_of_lt' hd, hu] at this
    · intro h; rw [h]
  rw [this]
  exact hk ro1 hl1
set_option maxHeartbeats 8000000 in
theorem atom_ok {s : RS} [hb : HasBlk own q 56 (rsV t s) g] {d : Nat} {x : Int} (ha : AltC t d) (hx : x = 32 - (d : Int)) (hd : d ≤ 32) (hi : Inv t s) (h0 : s.e = 0) (hn : s.n ≤ 512) (hl : t.length ≤ 10000)
    (hk : ∀ ro' v, Le ro ro' → RgOk ro' (atomD t (altD t d) s).1 v → K (.agg v.toArray) ro' (g (.blk q 56 (rsV t (atomD t (altD t d) s).2)))) :
    CallOk Tryd.prog 56 #[ptr' q, .int .i64 x] ro own K := by
  subst hx
  obtain ⟨r, p1, p2⟩ := hb.split
  refine CallOk.perm p1 ?_
  have hp := hi.p0 h0
  unfold atomD at hk
  refine CallOk.intro (args := [_, _]) (rs := [_]) T_ok Tryd.func56 Tryd.call56 rfl rfl (by kernel_rfl) rfl rfl ?_
  repeat (first | exact endA | refine wkP ?_ | refine opB (fun b => ?_) | refine opA (fun a' c' hc1 hc2 => ?_) | (apply GJ.and; exact rfl; intro hg) | (apply GJ.or; exact rfl; intro hg))
  obtain ⟨b4, hb4⟩ : ∃ z : Nat, z = b := ⟨_, rfl⟩
  subst hb4
  refine eat_ok (t := t) (s := s) 40 rfl (by decide) (by omega) ?_
  by_cases h40 : peekD t s = 40
  · rw [if_pos h40] at hk
    rw [decide_eq_true h40, eatS, if_pos h40]
    have hia := hi.adv (by rw [h40]; decide)
    repeat (first | exact endA | refine wkP ?_ | refine opB (fun b => ?_) | refine opA (fun a' c' hc1 hc2 => ?_) | (apply GJ.and; exact rfl; intro hg) | (apply GJ.or; exact rfl; intro hg))
    rw [show (32 : Int) - (d : Int) + 1 = 33 - (d : Int) by omega]
    refine ha inferInstance hia h0 hn (fun ro1 v hl1 hv => ?_)
    obtain ⟨a1, c1, hvc⟩ := hv.cells
    have hib : Inv t (altD t d s.adv).2 := Inv.alt hia
    have hpb := hib.p
    subst hvc
    repeat (first | exact endA | refine wkP ?_ | refine opB (fun b => ?_) | refine opA (fun a' c' hc1 hc2 => ?_) | (apply GJ.and; exact rfl; intro hg) | (apply GJ.or; exact rfl; intro hg))
    refine must_ok (t := t) (s := (altD t d s.adv).2) 41 rfl (by decide) (by omega) ?_
    repeat (first | exact endA | refine wkP ?_ | refine opB (fun b => ?_) | refine opA (fun a' c' hc1 hc2 => ?_) | (apply GJ.and; exact rfl; intro hg) | (apply GJ.or; exact rfl; intro hg))
    exact Wk.outS Sup.auto (p2 _) (hk ro1 _ hl1 hv)
  rw [if_neg h40] at hk
  rw [decide_eq_false h40, eatS, if_neg h40]
  repeat (first | exact endA | refine wkP ?_ | refine opB (fun b => ?_) | refine opA (fun a' c' hc1 hc2 => ?_) | (apply GJ.and; exact rfl; intro hg) | (apply GJ.or; exact rfl; intro hg))
  refine eat_ok (t := t) (s := s) 46 rfl (by decide) (by omega) ?_
  by_cases h46 : peekD t s = 46
  · rw [if_pos h46] at hk
    rw [decide_eq_true h46, eatS, if_pos h46]
    repeat (first | exact endA | refine wkP ?_ | refine opB (fun b => ?_) | refine opA (fun a' c' hc1 hc2 => ?_) | (apply GJ.and; exact rfl; intro hg) | (apply GJ.or; exact rfl; intro hg))
    refine all_ok ?_
    repeat (first | exact endA | refine wkP ?_ | refine opB (fun b => ?_) | refine opA (fun a' c' hc1 hc2 => ?_) | (apply GJ.and; exact rfl; intro hg) | (apply GJ.or; exact rfl; intro hg))
    refine node_ok (t := t) (s := s.adv) (k := 2) (z := allD) (a := none) (m := 0) (c := 0) (x := 0) (y := 0) (by show s.n ≤ _; omega) ?_
    repeat (first | exact endA | refine wkP ?_ | refine opB (fun b => ?_) | refine opA (fun a' c' hc1 hc2 => ?_) | (apply GJ.and; exact rfl; intro hg) | (apply GJ.or; exact rfl; intro hg))
    exact Wk.outS Sup.auto (p2 _) (hk ro _ (.refl _) (RgOk.leaf SetIn.all))
  rw [if_neg h46] at hk
  rw [decide_eq_false h46, eatS, if_neg h46]
  repeat (first | exact endA | refine wkP ?_ | refine opB (fun b => ?_) | refine opA (fun a' c' hc1 hc2 => ?_) | (apply GJ.and; exact rfl; intro hg) | (apply GJ.or; exact rfl; intro hg))
  refine eat_ok (t := t) (s := s) 91 rfl (by decide) (by omega) ?_
  by_cases h91 : peekD t s = 91
  · rw [if_pos h91] at hk
    rw [decide_eq_true h91, eatS, if_pos h91]
    repeat (first | exact endA | refine wkP ?_ | refine opB (fun b => ?_) | refine opA (fun a' c' hc1 hc2 => ?_) | (apply GJ.and; exact rfl; intro hg) | (apply GJ.or; exact rfl; intro hg))
    refine set_ok (t := t) (s := s.adv) s.p rfl hp (hi.adv (by rw [h91]; decide)) h0 hl ?_
    have hsn := set_n (t := t) (a := s.p) (s := s.adv)
    have hsi := setD_in (t := t) (a := s.p) (s := s.adv)
    have hsn : (setD t s.p s.adv).2.n = s.n := hsn
    generalize (setD t s.p s.adv).1 = z at hk hsi ⊢
    generalize (setD t s.p s.adv).2 = s2 at hk hsn ⊢
    repeat (first | exact endA | refine wkP ?_ | refine opB (fun b => ?_) | refine opA (fun a' c' hc1 hc2 => ?_) | (apply GJ.and; exact rfl; intro hg) | (apply GJ.or; exact rfl; intro hg))
    refine node_ok (t := t) (s := s2) (k := 2) (z := z) (a := none) (m := 0) (c := 0) (x := 0) (y := 0) (by omega) ?_
    repeat (first | exact endA | refine wkP ?_ | refine opB (fun b => ?_) | refine opA (fun a' c' hc1 hc2 => ?_) | (apply GJ.and; exact rfl; intro hg) | (apply GJ.or; exact rfl; intro hg))
    exact Wk.outS Sup.auto (p2 _) (hk ro _ (.refl _) (RgOk.leaf hsi))
  rw [if_neg h91] at hk
  rw [decide_eq_false h91, eatS, if_neg h91]
  repeat (first | exact endA | refine wkP ?_ | refine opB (fun b => ?_) | refine opA (fun a' c' hc1 hc2 => ?_) | (apply GJ.and; exact rfl; intro hg) | (apply GJ.or; exact rfl; intro hg))
  refine byte_ok (t := t) (s := s) (by omega) ?_
  have hbn := byte_n (t := t) (s := s)
  have hbl := byteD_lt (t := t) (s := s)
  generalize (byteD t s).1 = c at hk hbl ⊢
  generalize (byteD t s).2 = s2 at hk hbn ⊢
  repeat (first | exact endA | refine wkP ?_ | refine opB (fun b => ?_) | refine opA (fun a' c' hc1 hc2 => ?_) | (apply GJ.and; exact rfl; intro hg) | (apply GJ.or; exact rfl; intro hg))
  refine ofD_ok hbl (fun ro1 hl1 => ?_)
  have hoi := of_in hbl
  generalize ofD c = z at hk hoi ⊢
  repeat (first | exact endA | refine wkP ?_ | refine opB (fun b => ?_) | refine opA (fun a' c' hc1 hc2 => ?_) | (apply GJ.and; exact rfl; intro hg) | (apply GJ.or; exact rfl; intro hg))
  refine node_ok (t := t) (s := s2) (k := 2) (z := z) (a := none) (m := 0) (c := 0) (x := 0) (y := 0) (by omega) ?_
  repeat (first | exact endA | refine wkP ?_ | refine opB (fun b => ?_) | refine opA (fun a' c' hc1 hc2 => ?_) | (apply GJ.and; exact rfl; intro hg) | (apply GJ.or; exact rfl; intro hg))
  exact Wk.outS Sup.auto (p2 _) (hk ro1 _ hl1 (RgOk.leaf hoi))
end
end Go.Proofs.YtinbmhbfcoiefaaDoor
end
section
/- Contracts of regex: repeat. -/
namespace Go.Proofs.YtinbmhbfcoiefaaDoor
open Go Go.E
set_option linter.unusedVariables false
set_option linter.unusedSimpArgs false
set_option maxRecDepth 10000
theorem rep_none {t : List UInt8} {k : Nat} {n : RgD} {s : RS} (h1 : ¬ peekD t s = 42) (h2 : ¬ peekD t s = 43) (h3 : ¬ peekD t s = 63) (h4 : ¬ peekD t s = 123) : repL t k n s = (n, s) := by
  cases k with
  | zero => rfl
  | succ k => rw [repL, if_neg h1, if_neg h2, if_neg h3, if_neg h4]
theorem node_p (s : RS) : (nodeS s).p = s.p := by
  unfold nodeS RS.wrong
  repeat' split
  all_goals rfl
theorem counts_more {t : List UInt8} {s : RS} (h0 : s.e = 0) (h : (countsD t s).2.e = 0) : s.p ≤ (countsD t s).2.p := by
  obtain ⟨l, ⟨r1, _⟩, _⟩ := counts_sound h0 h
  rw [r1]; show s.p ≤ s.p + l.length; omega
/-- A kid that lies in a slice of its own. -/
theorem RgOk.rep {ro : Ro} {n : RgD} {v : List Value} {a : Option Addr} {x y : Int} (hv : RgOk ro n v) (hr : Rs ro a 1 1 8 v) : RgOk ro (repD n x y) (nodeV 5 zeroS a 1 1 x y) := by
  rw [repD, RgOk]
  exact ⟨a, 1, v, rfl, zeroS_in, hr, by rw [RgsOk]; exact ⟨v, [], by simp, hv, by rw [RgsOk]⟩⟩
section
variable {ro : Ro} {own r : Chs} {K : Value → Ro → Chs → Prop} {g : Chunk → Chs} {q : Nat} {t : List UInt8}
set_option maxHeartbeats 8000000 in
theorem repeat_ok {s : RS} [hb : HasBlk own q 56 (rsV t s) g] {d : Nat} {x : Int} (ha : AltC t d) (hx : x = 32 - (d : Int)) (hd : d ≤ 32) (hi : Inv t s) (h0 : s.e = 0) (hn : s.n ≤ 512) (hl : t.length ≤ 10000)
    (hk : ∀ ro' v, Le ro ro' → RgOk ro' (pieceD t (altD t d) s).1 v → K (.agg v.toArray) ro' (g (.blk q 56 (rsV t (pieceD t (altD t d) s).2)))) :
    CallOk Tryd.prog 52 #[ptr' q, .int .i64 x] ro own K := by
  obtain ⟨r, p1, p2⟩ := hb.split
  refine CallOk.perm p1 ?_
  have hp := hi.p0 h0
  unfold pieceD at hk
  obtain ⟨R, hR⟩ : ∃ R, R = repL t (t.length + 1) (atomD t (altD t d) s).1 (atomD t (altD t d) s).2 := ⟨_, rfl⟩
  rw [← hR] at hk
  have hia : Inv t (atomD t (altD t d) s).2 := hi.atom (fun h _ => Inv.alt h) h0
  have hna : NB (513 + 2 * d) (atomD t (altD t d) s).2 := NB.atom (by omega) (fun h0 hn => NB.alt h0 hn) h0 hn
  refine CallOk.intro (args := [_, _]) (rs := [_]) T_ok Tryd.func52 Tryd.call52 rfl rfl (by kernel_rfl) rfl rfl ?_
  repeat (first | exact endA | refine wkP ?_ | refine opB (fun b => ?_) | refine opA (fun a' c' hc1 hc2 => ?_) | (apply GJ.and; exact rfl; intro hg) | (apply GJ.or; exact rfl; intro hg))
  obtain ⟨b4, hb4⟩ : ∃ z : Nat, z = b := ⟨_, rfl⟩
  subst hb4
  refine atom_ok (t := t) (s := s) ha hx hd hi h0 hn hl (fun ro1 v hl1 hv => ?_)
  generalize (atomD t (altD t d) s).1 = n0 at hR hv
  generalize (atomD t (altD t d) s).2 = s0 at hR hia hna ⊢
  obtain ⟨a1, c1, hvc⟩ := hv.cells
  obtain ⟨V, hV⟩ : ∃ V, V = v := ⟨_, rfl⟩
  rw [← hV] at hv
  subst hvc
  repeat (first | exact endA | refine wkP ?_ | refine opB (fun b => ?_) | refine opA (fun a' c' hc1 hc2 => ?_) | (apply GJ.and; exact rfl; intro hg) | (apply GJ.or; exact rfl; intro hg))
  rw [← hV]
  clear hV
  obtain ⟨b5, hb5⟩ : ∃ z : Nat, z = b := ⟨_, rfl⟩
  subst hb5
  refine LoopOk.auto (ι := Nat × RgD × List Value × RS) Keep.auto (fun (k, n, v, s1) => []) (fun (k, n, v, s1) => .blk b5 33 v :: .blk b4 33 (nodeV 0 zeroS none 0 0 0 0) :: .blk q 56 (rsV t s1) :: r) (fun (k, n, v, s1) ro2 => RgOk ro2 n v ∧ repL t k n s1 = R ∧ (s1.e = 0 → t.length + 1 ≤ k + s1.p) ∧ Inv t s1 ∧ NB (513 + 2 * d) s1) (fun (k, n, v, s1) => k) (t.length + 1, n0, V, s0) ?_ Sub.auto Sup.auto ?_
  · exact ⟨hv, hR.symm, fun _ => by omega, hia, hna⟩
  rintro ⟨k, n, v, s1⟩ ro2 hl2 ⟨i1, i2, i3, i4, i5⟩
  dsimp only [List.cons_append, List.nil_append] at i1 i2 i3 i4 i5 ⊢
  have hp1 := i4.p
  have hn1 := i5.n
  obtain ⟨a2, c2, hvc⟩ := i1.cells
  subst hvc
  repeat (first | exact endA | refine wkP ?_ | refine opB (fun b => ?_) | refine opA (fun a' c' hc1 hc2 => ?_) | (apply GJ.and; exact rfl; intro hg) | (apply GJ.or; exact rfl; intro hg))
  refine eat_ok (t := t) (s := s1) 42 rfl (by decide) (by omega) ?_
  by_cases h42 : peekD t s1 = 42
  · have hpp := peek_pos (t := t) (s := s1) (by rw [h42]; decide)
    have h3 := i3 hpp.1
    obtain ⟨k, rfl⟩ : ∃ j, k = j + 1 := ⟨k - 1, by omega⟩
    rw [repL, if_pos h42] at i2
    rw [decide_eq_true h42, eatS, if_pos h42]
    have hn2 : s1.adv.n ≤ 10000000 := by show s1.n ≤ _; omega
    have hiv : Inv t s1.adv := i4.adv (by rw [h42]; decide)
    have hsm : NB 513 (nodeS s1.adv) := i5.small hpp.1 rfl
    have hm2 : (nodeS s1.adv).e = 0 → t.length + 1 ≤ k + (nodeS s1.adv).p := fun _ => by rw [node_p]; show _ ≤ k + (s1.p + 1); omega
    repeat (first | exact endA | refine wkP ?_ | refine opB (fun b => ?_) | refine opA (fun a' c' hc1 hc2 => ?_) | (apply GJ.and; exact rfl; intro hg) | (apply GJ.or; exact rfl; intro hg))
    refine CallOk.freeze (c := .sl (some ⟨b, 0, none⟩) _ _ _ _ _) Take.auto (fun ro3 hl3 hc3 => ?_)
    have hv3 : RgOk ro3 n (nodeV n.kind n.set a2 n.kids.length c2 n.min n.max) := i1.le hl3
    have hr3 : Rs ro3 (some ⟨b, 0, none⟩) 1 1 8 (nodeV n.kind n.set a2 n.kids.length c2 n.min n.max) := Rs.last hc3
    refine node_ok (t := t) (s := s1.adv) (k := 5) (z := zeroS) (a := some ⟨b, 0, none⟩) (m := 1) (c := 1) (x := 0) (y := (-1)) hn2 ?_
    repeat (first | exact endA | refine wkP ?_ | refine opB (fun b => ?_) | refine opA (fun a' c' hc1 hc2 => ?_) | (apply GJ.and; exact rfl; intro hg) | (apply GJ.or; exact rfl; intro hg))
    refine Wk.id ⟨(k, repD n 0 (-1), nodeV 5 zeroS (some ⟨b, 0, none⟩) 1 1 0 (-1), nodeS s1.adv), ?_, ?_, Sub.auto, Sup.auto⟩
    all_goals try dsimp only
    · exact ⟨hv3.rep hr3, i2, hm2, hiv.node, hsm.le (by omega)⟩
    · omega
  rw [decide_eq_false h42, eatS, if_neg h42]
  repeat (first | exact endA | refine wkP ?_ | refine opB (fun b => ?_) | refine opA (fun a' c' hc1 hc2 => ?_) | (apply GJ.and; exact rfl; intro hg) | (apply GJ.or; exact rfl; intro hg))
  refine eat_ok (t := t) (s := s1) 43 rfl (by decide) (by omega) ?_
  by_cases h43 : peekD t s1 = 43
  · have hpp := peek_pos (t := t) (s := s1) (by rw [h43]; decide)
    have h3 := i3 hpp.1
    obtain ⟨k, rfl⟩ : ∃ j, k = j + 1 := ⟨k - 1, by omega⟩
    rw [repL, if_neg h42, if_pos h43] at i2
    rw [decide_eq_true h43, eatS, if_pos h43]
    have hn2 : s1.adv.n ≤ 10000000 := by show s1.n ≤ _; omega
    have hiv : Inv t s1.adv := i4.adv (by rw [h43]; decide)
    have hsm : NB 513 (nodeS s1.adv) := i5.small hpp.1 rfl
    have hm2 : (nodeS s1.adv).e = 0 → t.length + 1 ≤ k + (nodeS s1.adv).p := fun _ => by rw [node_p]; show _ ≤ k + (s1.p + 1); omega
    repeat (first | exact endA | refine wkP ?_ | refine opB (fun b => ?_) | refine opA (fun a' c' hc1 hc2 => ?_) | (apply GJ.and; exact rfl; intro hg) | (apply GJ.or; exact rfl; intro hg))
    refine CallOk.freeze (c := .sl (some ⟨b, 0, none⟩) _ _ _ _ _) Take.auto (fun ro3 hl3 hc3 => ?_)
    have hv3 : RgOk ro3 n (nodeV n.kind n.set a2 n.kids.length c2 n.min n.max) := i1.le hl3
    have hr3 : Rs ro3 (some ⟨b, 0, none⟩) 1 1 8 (nodeV n.kind n.set a2 n.kids.length c2 n.min n.max) := Rs.last hc3
    refine node_ok (t := t) (s := s1.adv) (k := 5) (z := zeroS) (a := some ⟨b, 0, none⟩) (m := 1) (c := 1) (x := 1) (y := (-1)) hn2 ?_
    repeat (first | exact endA | refine wkP ?_ | refine opB (fun b => ?_) | refine opA (fun a' c' hc1 hc2 => ?_) | (apply GJ.and; exact rfl; intro hg) | (apply GJ.or; exact rfl; intro hg))
    refine Wk.id ⟨(k, repD n 1 (-1), nodeV 5 zeroS (some ⟨b, 0, none⟩) 1 1 1 (-1), nodeS s1.adv), ?_, ?_, Sub.auto, Sup.auto⟩
    all_goals try dsimp only
    · exact ⟨hv3.rep hr3, i2, hm2, hiv.node, hsm.le (by omega)⟩
    · omega
  rw [decide_eq_false h43, eatS, if_neg h43]
  repeat (first | exact endA | refine wkP ?_ | refine opB (fun b => ?_) | refine opA (fun a' c' hc1 hc2 => ?_) | (apply GJ.and; exact rfl; intro hg) | (apply GJ.or; exact rfl; intro hg))
  refine eat_ok (t := t) (s := s1) 63 rfl (by decide) (by omega) ?_
  by_cases h63 : peekD t s1 = 63
  · have hpp := peek_pos (t := t) (s := s1) (by rw [h63]; decide)
    have h3 := i3 hpp.1
    obtain ⟨k, rfl⟩ : ∃ j, k = j + 1 := ⟨k - 1, by omega⟩
    rw [repL, if_neg h42, if_neg h43, if_pos h63] at i2
    rw [decide_eq_true h63, eatS, if_pos h63]
    have hn2 : s1.adv.n ≤ 10000000 := by show s1.n ≤ _; omega
    have hiv : Inv t s1.adv := i4.adv (by rw [h63]; decide)
    have hsm : NB 513 (nodeS s1.adv) := i5.small hpp.1 rfl
    have hm2 : (nodeS s1.adv).e = 0 → t.length + 1 ≤ k + (nodeS s1.adv).p := fun _ => by rw [node_p]; show _ ≤ k + (s1.p + 1); omega
    repeat (first | exact endA | refine wkP ?_ | refine opB (fun b => ?_) | refine opA (fun a' c' hc1 hc2 => ?_) | (apply GJ.and; exact rfl; intro hg) | (apply GJ.or; exact rfl; intro hg))
    refine CallOk.freeze (c := .sl (some ⟨b, 0, none⟩) _ _ _ _ _) Take.auto (fun ro3 hl3 hc3 => ?_)
    have hv3 : RgOk ro3 n (nodeV n.kind n.set a2 n.kids.length c2 n.min n.max) := i1.le hl3
    have hr3 : Rs ro3 (some ⟨b, 0, none⟩) 1 1 8 (nodeV n.kind n.set a2 n.kids.length c2 n.min n.max) := Rs.last hc3
    refine node_ok (t := t) (s := s1.adv) (k := 5) (z := zeroS) (a := some ⟨b, 0, none⟩) (m := 1) (c := 1) (x := 0) (y := 1) hn2 ?_
    repeat (first | exact endA | refine wkP ?_ | refine opB (fun b => ?_) | refine opA (fun a' c' hc1 hc2 => ?_) | (apply GJ.and; exact rfl; intro hg) | (apply GJ.or; exact rfl; intro hg))
    refine Wk.id ⟨(k, repD n 0 1, nodeV 5 zeroS (some ⟨b, 0, none⟩) 1 1 0 1, nodeS s1.adv), ?_, ?_, Sub.auto, Sup.auto⟩
    all_goals try dsimp only
    · exact ⟨hv3.rep hr3, i2, hm2, hiv.node, hsm.le (by omega)⟩
    · omega
  rw [decide_eq_false h63, eatS, if_neg h63]
  repeat (first | exact endA | refine wkP ?_ | refine opB (fun b => ?_) | refine opA (fun a' c' hc1 hc2 => ?_) | (apply GJ.and; exact rfl; intro hg) | (apply GJ.or; exact rfl; intro hg))
  refine eat_ok (t := t) (s := s1) 123 rfl (by decide) (by omega) ?_
  by_cases h123 : peekD t s1 = 123
  · have hpp := peek_pos (t := t) (s := s1) (by rw [h123]; decide)
    have h3 := i3 hpp.1
    obtain ⟨k, rfl⟩ : ∃ j, k = j + 1 := ⟨k - 1, by omega⟩
    rw [repL, if_neg h42, if_neg h43, if_neg h63, if_pos h123] at i2
    rw [decide_eq_true h123, eatS, if_pos h123]
    have hiv : Inv t (countsD t s1.adv).2 := (i4.adv (by rw [h123]; decide)).counts hpp.2
    have hsm : NB 513 (nodeS (countsD t s1.adv).2) := i5.small hpp.1 counts_n
    have hn2 : (countsD t s1.adv).2.n ≤ 10000000 := by rw [counts_n]; show s1.n ≤ _; omega
    have hm2 : (nodeS (countsD t s1.adv).2).e = 0 → t.length + 1 ≤ k + (nodeS (countsD t s1.adv).2).p := fun he => by
      rw [node_p]
      have := counts_more (t := t) (s := s1.adv) hpp.1 (node_sound (t := t) he).2
      have e : s1.adv.p = s1.p + 1 := rfl
      omega
    repeat (first | exact endA | refine wkP ?_ | refine opB (fun b => ?_) | refine opA (fun a' c' hc1 hc2 => ?_) | (apply GJ.and; exact rfl; intro hg) | (apply GJ.or; exact rfl; intro hg))
    refine rcounts_ok (t := t) (s := s1.adv) hpp.1 (by show s1.p + 1 ≤ _; omega) hl ?_
    generalize (countsD t s1.adv).1.1 = lo at i2 ⊢
    generalize (countsD t s1.adv).1.2 = hi2 at i2 ⊢
    generalize (countsD t s1.adv).2 = s2 at i2 hiv hsm hn2 hm2 ⊢
    repeat (first | exact endA | refine wkP ?_ | refine opB (fun b => ?_) | refine opA (fun a' c' hc1 hc2 => ?_) | (apply GJ.and; exact rfl; intro hg) | (apply GJ.or; exact rfl; intro hg))
    refine CallOk.freeze (c := .sl (some ⟨b, 0, none⟩) _ _ _ _ _) Take.auto (fun ro3 hl3 hc3 => ?_)
    have hv3 : RgOk ro3 n (nodeV n.kind n.set a2 n.kids.length c2 n.min n.max) := i1.le hl3
    have hr3 : Rs ro3 (some ⟨b, 0, none⟩) 1 1 8 (nodeV n.kind n.set a2 n.kids.length c2 n.min n.max) := Rs.last hc3
    refine node_ok (t := t) (s := s2) (k := 5) (z := zeroS) (a := some ⟨b, 0, none⟩) (m := 1) (c := 1) (x := (lo : Int)) (y := hi2) hn2 ?_
    repeat (first | exact endA | refine wkP ?_ | refine opB (fun b => ?_) | refine opA (fun a' c' hc1 hc2 => ?_) | (apply GJ.and; exact rfl; intro hg) | (apply GJ.or; exact rfl; intro hg))
    refine Wk.id ⟨(k, repD n (lo : Int) hi2, nodeV 5 zeroS (some ⟨b, 0, none⟩) 1 1 (lo : Int) hi2, nodeS s2), ?_, ?_, Sub.auto, Sup.auto⟩
    all_goals try dsimp only
    · exact ⟨hv3.rep hr3, i2, hm2, hiv.node, hsm.le (by omega)⟩
    · omega
  rw [decide_eq_false h123, eatS, if_neg h123]
  rw [rep_none h42 h43 h63 h123] at i2
  rw [← i2] at hk
  repeat (first | exact endA | refine wkP ?_ | refine opB (fun b => ?_) | refine opA (fun a' c' hc1 hc2 => ?_) | (apply GJ.and; exact rfl; intro hg) | (apply GJ.or; exact rfl; intro hg))
  exact Wk.outS Sup.auto (p2 _) (hk ro2 _ (hl1.trans hl2) i1)
end
end Go.Proofs.YtinbmhbfcoiefaaDoor
end
section
/- Contracts of regex: cat. -/
namespace Go.Proofs.YtinbmhbfcoiefaaDoor
open Go Go.E
set_option linter.unusedVariables false
set_option linter.unusedSimpArgs false
set_option maxRecDepth 10000
theorem cat_none {t : List UInt8} {alt : RS → RgD × RS} {k : Nat} {l : List RgD} {s : RS} (h : peekD t s = 0 ∨ peekD t s = 124 ∨ peekD t s = 41) : catL t alt k l s = (l, s) := by
  cases k with
  | zero => rfl
  | succ k => rw [catL, if_neg (fun x => by omega)]
theorem RgOk.many {ro : Ro} {k : Int} {l : List RgD} {cs : List Value} {a : Option Addr} {c : Nat} (hl : RgsOk ro l cs) (hr : Rs ro a l.length c 8 cs) : RgOk ro (.mk k zeroS l 0 0) (nodeV k zeroS a l.length c 0 0) := by
  rw [RgOk]; exact ⟨a, c, cs, rfl, zeroS_in, hr, hl⟩
theorem RgsOk.single {ro : Ro} {n : RgD} {cs : List Value} (h : RgsOk ro [n] cs) : RgOk ro n cs := by
  rw [RgsOk] at h
  obtain ⟨v, r, rfl, h1, h2⟩ := h
  rw [RgsOk] at h2; subst h2
  rw [List.append_nil]; exact h1
theorem piece_more {t : List UInt8} {d : Nat} {s : RS} (h : (pieceD t (altD t d) s).2.e = 0) : s.p + 1 ≤ (pieceD t (altD t d) s).2.p := by
  obtain ⟨l, ⟨r1, _⟩, hp⟩ := piece_sound (t := t) (alt := altD t d) ⟨fun h => alt_sound h, fun h => alt_keep h⟩ h
  obtain ⟨x, m, hx, _⟩ := hp.head
  rw [r1, hx]; show s.p + 1 ≤ s.p + (m.length + 1); omega
section
variable {ro : Ro} {own r : Chs} {K : Value → Ro → Chs → Prop} {g : Chunk → Chs} {q : Nat} {t : List UInt8}
set_option maxHeartbeats 8000000 in
theorem cat_ok {s : RS} [hb : HasBlk own q 56 (rsV t s) g] {d : Nat} {x : Int} (ha : AltC t d) (hx : x = 32 - (d : Int)) (hd : d ≤ 32) (hi : Inv t s) (h0 : s.e = 0) (hn : s.n ≤ 512) (hl : t.length ≤ 10000)
    (hk : ∀ ro' v, Le ro ro' → RgOk ro' (catD t (altD t d) s).1 v → K (.agg v.toArray) ro' (g (.blk q 56 (rsV t (catD t (altD t d) s).2)))) :
    CallOk Tryd.prog 37 #[ptr' q, .int .i64 x] ro own K := by
  obtain ⟨r, p1, p2⟩ := hb.split
  refine CallOk.perm p1 ?_
  have hp := hi.p0 h0
  unfold catD at hk
  obtain ⟨R, hR⟩ : ∃ R, R = catL t (altD t d) (t.length + 1) [] s := ⟨_, rfl⟩
  rw [← hR] at hk
  refine CallOk.intro (args := [_, _]) (rs := [_]) T_ok Tryd.func37 Tryd.call37 rfl rfl (by kernel_rfl) rfl rfl ?_
  repeat (first | exact endA | refine wkP ?_ | refine opB (fun b => ?_) | refine opA (fun a' c' hc1 hc2 => ?_) | (apply GJ.and; exact rfl; intro hg) | (apply GJ.or; exact rfl; intro hg))
  obtain ⟨b4, hb4⟩ : ∃ z : Nat, z = b := ⟨_, rfl⟩
  subst hb4
  refine peek_ok (t := t) (s := s) ?_
  repeat (first | exact endA | refine wkP ?_ | refine opB (fun b => ?_) | refine opA (fun a' c' hc1 hc2 => ?_) | (apply GJ.and; exact rfl; intro hg) | (apply GJ.or; exact rfl; intro hg))
  refine LoopOk.auto (ι := Nat × List RgD × List Value × RS × Option Addr × Nat) Keep.auto (fun (k, l, cs, s1, ad, cp) => [(5, .slice ad l.length cp), (6, .int .u8 (peekD t s1 : Int))]) (fun (k, l, cs, s1, ad, cp) => .sl ad l.length cp 33 8 cs :: .blk b4 33 (nodeV 0 zeroS none 0 0 0 0) :: .blk q 56 (rsV t s1) :: r) (fun (k, l, cs, s1, ad, cp) ro2 => RgsOk ro2 l cs ∧ catL t (altD t d) k l s1 = R ∧ (s1.e = 0 → t.length + 1 ≤ k + s1.p ∧ l.length ≤ s1.p) ∧ l.length ≤ t.length + 1 ∧ Inv t s1 ∧ NB (513 + 2 * d) s1 ∧ l.length ≤ cp ∧ cp ≤ maxLen) (fun (k, l, cs, s1, ad, cp) => k) (t.length + 1, [], [], s, none, 0) ?_ Sub.auto Sup.auto ?_
  · exact ⟨by rw [RgsOk], hR.symm, fun _ => ⟨by omega, Nat.zero_le _⟩, Nat.zero_le _, hi, ⟨fun _ => hn, by omega⟩, Nat.zero_le _, Nat.zero_le _⟩
  rintro ⟨k, l, cs, s1, ad, cp⟩ ro2 hl2 ⟨i1, i2, i3, i4, i5, i6, i7, i8⟩
  dsimp only [List.cons_append, List.nil_append] at i1 i2 i3 i4 i5 i6 i7 i8 ⊢
  have hp1 := i5.p
  have hn1 := i6.n
  have hL : cs.length = l.length * 8 := i1.len
  have hlt := peek_lt t s1
  by_cases hgo : peekD t s1 = 0 ∨ peekD t s1 = 124 ∨ peekD t s1 = 41
  · rw [cat_none hgo] at i2
    rw [← i2] at hk
    have hgo : ((peekD t s1 : Int) = 0 ∨ (peekD t s1 : Int) = 124 ∨ (peekD t s1 : Int) = 41) := by omega
    generalize (peekD t s1 : Int) = c at hgo ⊢
    have hgc : ¬ (c ≠ 0 ∧ c ≠ 124 ∧ c ≠ 41) := by omega
    repeat (first | exact endA | refine wkP ?_ | refine opB (fun b => ?_) | refine opA (fun a' c' hc1 hc2 => ?_) | (apply GJ.and; exact rfl; intro hg) | (apply GJ.or; exact rfl; intro hg))
    rcases l with _ | ⟨x1, _ | ⟨y1, l1⟩⟩
    · refine Br.t rfl ?_
      repeat (first | exact endA | refine wkP ?_ | refine opB (fun b => ?_) | refine opA (fun a' c' hc1 hc2 => ?_) | (apply GJ.and; exact rfl; intro hg) | (apply GJ.or; exact rfl; intro hg))
      refine node_ok (t := t) (s := s1) (k := 1) (z := zeroS) (a := none) (m := 0) (c := 0) (x := 0) (y := 0) (by omega) ?_
      repeat (first | exact endA | refine wkP ?_ | refine opB (fun b => ?_) | refine opA (fun a' c' hc1 hc2 => ?_) | (apply GJ.and; exact rfl; intro hg) | (apply GJ.or; exact rfl; intro hg))
      exact Wk.outS Sup.auto (p2 _) (hk ro2 _ hl2 (RgOk.leaf zeroS_in))
    · rw [show ([x1] : List RgD).length = 1 from rfl] at i4 i7 hL ⊢
      have hv := i1.single
      obtain ⟨a1, c1, hvc⟩ := hv.cells
      subst hvc
      refine Br.f (by simp) ?_
      repeat (first | exact endA | refine wkP ?_ | refine opB (fun b => ?_) | refine opA (fun a' c' hc1 hc2 => ?_) | (apply GJ.and; exact rfl; intro hg) | (apply GJ.or; exact rfl; intro hg))
      refine OpOk.loadRow rfl rfl (LdN.slRow (k := 0) (z := 8) (cs := nodeV x1.kind x1.set a1 x1.kids.length c1 x1.min x1.max) (vs := nodeV x1.kind x1.set a1 x1.kids.length c1 x1.min x1.max) rfl) rfl ?_
      repeat (first | exact endA | refine wkP ?_ | refine opB (fun b => ?_) | refine opA (fun a' c' hc1 hc2 => ?_) | (apply GJ.and; exact rfl; intro hg) | (apply GJ.or; exact rfl; intro hg))
      exact Wk.outS Sup.auto (p2 _) (hk ro2 _ hl2 hv)
    · have hlen : 2 ≤ (x1 :: y1 :: l1).length := by simp
      have hcat : catOf (x1 :: y1 :: l1, s1) = (catD' (x1 :: y1 :: l1), nodeS s1) := rfl
      rw [hcat] at hk
      generalize x1 :: y1 :: l1 = l at hk i1 i2 i3 i4 i7 hL hlen ⊢
      repeat (first | exact endA | refine wkP ?_ | refine opB (fun b => ?_) | refine opA (fun a' c' hc1 hc2 => ?_) | (apply GJ.and; exact rfl; intro hg) | (apply GJ.or; exact rfl; intro hg))
      refine CallOk.freeze (c := .sl ad _ _ _ _ _) Take.auto (fun ro3 hl3 hc3 => ?_)
      have hw := RgOk.many (k := 3) (i1.le hl3) (Rs.last hc3)
      refine node_ok (t := t) (s := s1) (k := 3) (z := zeroS) (a := ad) (m := l.length) (c := cp) (x := 0) (y := 0) (by omega) ?_
      repeat (first | exact endA | refine wkP ?_ | refine opB (fun b => ?_) | refine opA (fun a' c' hc1 hc2 => ?_) | (apply GJ.and; exact rfl; intro hg) | (apply GJ.or; exact rfl; intro hg))
      exact Wk.outS Sup.auto (p2 _) (hk ro3 _ (hl2.trans hl3) hw)
  · have hpp := peek_pos (t := t) (s := s1) (by omega)
    obtain ⟨h3, h4⟩ := i3 hpp.1
    obtain ⟨k, rfl⟩ : ∃ j, k = j + 1 := ⟨k - 1, by omega⟩
    rw [catL, if_pos (by omega)] at i2
    have hgo : ¬ (peekD t s1 : Int) = 0 ∧ ¬ (peekD t s1 : Int) = 124 ∧ ¬ (peekD t s1 : Int) = 41 := by omega
    have hin : Inv t (pieceD t (altD t d) s1).2 := i5.piece (fun h _ => Inv.alt h) hpp.1
    have hnn : NB (513 + 2 * d) (pieceD t (altD t d) s1).2 := NB.piece (by omega) (fun h0 hn => NB.alt h0 hn) hpp.1 (i6.n0 hpp.1)
    have hmore := piece_more (t := t) (d := d) (s := s1)
    generalize (peekD t s1 : Int) = c at hgo ⊢
    obtain ⟨g1, g2, g3⟩ := hgo
    repeat (first | exact endA | refine wkP ?_ | refine opB (fun b => ?_) | refine opA (fun a' c' hc1 hc2 => ?_) | (apply GJ.and; exact rfl; intro hg) | (apply GJ.or; exact rfl; intro hg))
    refine repeat_ok (t := t) (s := s1) ha hx hd i5 hpp.1 (i6.n0 hpp.1) hl (fun ro3 v hl3 hv => ?_)
    generalize (pieceD t (altD t d) s1).1 = n at i2 hv
    generalize (pieceD t (altD t d) s1).2 = s2 at i2 hin hnn hmore ⊢
    obtain ⟨a1, c1, hvc⟩ := hv.cells
    subst hvc
    repeat (first | exact endA | refine wkP ?_ | refine opB (fun b => ?_) | refine opA (fun a' c' hc1 hc2 => ?_) | (apply GJ.and; exact rfl; intro hg) | (apply GJ.or; exact rfl; intro hg))
    rw [show l.length + 1 = (l ++ [n]).length by simp] at hc1 ⊢
    repeat (first | exact endA | refine wkP ?_ | refine opB (fun b => ?_) | refine opA (fun a' c' hc1 hc2 => ?_) | (apply GJ.and; exact rfl; intro hg) | (apply GJ.or; exact rfl; intro hg))
    refine peek_ok (t := t) (s := s2) ?_
    repeat (first | exact endA | refine wkP ?_ | refine opB (fun b => ?_) | refine opA (fun a' c' hc1 hc2 => ?_) | (apply GJ.and; exact rfl; intro hg) | (apply GJ.or; exact rfl; intro hg))
    refine Wk.id ⟨(k, l ++ [n], cs ++ nodeV n.kind n.set a1 n.kids.length c1 n.min n.max, s2, a', c'), ?_, ?_, Sub.auto, Sup.auto⟩
    all_goals try dsimp only
    · refine ⟨RgsOk.snoc hv (i1.le hl3), i2, fun he => ?_, by simp; omega, hin, hnn, hc1, hc2⟩
      have := hmore he
      simp; omega
    · omega
end
end Go.Proofs.YtinbmhbfcoiefaaDoor
end
section
/- Contracts of nfa: node, repeat. -/
namespace Go.Proofs.YtinbmhbfcoiefaaDoor
open Go Go.E
set_option linter.unusedVariables false
set_option linter.unusedSimpArgs false
set_option maxRecDepth 10000
/-- How many edges there are, and how many more may come by states. -/
def budN (st : StD) : Nat := edgesN st + 4 * (4096 - st.rows.length)
def stM (R : List RowM) (full : Bool) : StD := ⟨rowsOf R, full⟩
theorem stM_len (R : List RowM) (full : Bool) : (stM R full).rows.length = R.length := by simp [stM, rowsOf]
theorem stM_eq {R : List RowM} {st : StD} (h : rowsOf R = st.rows) : stM R st.full = st := by unfold stM; rw [h]
theorem row_ofM {R : List RowM} {full : Bool} {f : Nat} {row : RowM} (h : R[f]? = some row) : row.2.length ≤ edgesN (stM R full) := by
  refine row_edges (f := f) ?_
  unfold stM rowsOf
  rw [List.getElem?_map, h]; rfl
theorem bud_state (st : StD) (h : StOk st) : budN (stateN st).2 ≤ budN st ∧ ((stateN st).2.full = false → budN (stateN st).2 + 4 ≤ budN st) := by
  have h1 := edges_state st
  have h2 := state_len st
  have h3 := h.le
  unfold budN
  refine ⟨by rw [h1, h2]; split <;> omega, fun hf => ?_⟩
  rw [state_full] at hf
  split at hf
  · cases hf
  · rename_i h4
    rw [h1, h2, if_neg h4]; omega
theorem bud_edge (f : Nat) (x : EdgeD) (st : StD) : budN (edgeN f x st) ≤ budN st + 1 := by
  have h1 := edges_edge f x st
  have h2 := edge_len f x st
  unfold budN; rw [h2]; omega
theorem bud_made {c s : Nat} {st : StD} {p : Nat × StD} (h : Made c s st p) : budN p.2 ≤ budN st + 4 * s ∧ (p.2.full = false → budN p.2 ≤ budN st) := by
  have h1 := h.grow
  have h2 := h.ok.le
  unfold budN
  exact ⟨by have := h.edges1; omega, fun hf => by have := h.edges0 hf; omega⟩
/-- What is asked of the making of an expression's automaton: just what nodeN says comes of it. -/
structure NodeC (n : RgD) : Prop where
  run : ∀ {ro : Ro} {r : Chs} {K : Value → Ro → Chs → Prop} {q c f : Nat} {a : Option Addr} {e : Int} {full : Bool} {R : List RowM} {v : List Value}, RgOk ro n v → wrongD n = 0 → StOk (stM R full) → f < R.length → (full = true ∨ budN (stM R full) + 4 * sizeD n ≤ 900000) →
    (∀ a' c' R', rowsOf R' = (nodeN n f (stM R full)).2.rows → K (.int .i64 ((nodeN n f (stM R full)).1 : Int)) ro (mkC q a' c' e (nodeN n f (stM R full)).2.full R' r)) →
    CallOk Tryd.prog 14 #[ptr' q, .agg v.toArray, .int .i64 (f : Int)] ro (mkC q a c e full R r) K
section
variable {ro : Ro} {own r : Chs} {K : Value → Ro → Chs → Prop} {g : Chunk → Chs}
/-- state, as told of the maker's state. -/
theorem nstate_st {q c : Nat} {a : Option Addr} {e : Int} {full : Bool} {R : List RowM} (ho : StOk (stM R full))
    (hk : ∀ a' c' R', stM R' (stateN (stM R full)).2.full = (stateN (stM R full)).2 → K (.int .i64 ((stateN (stM R full)).1 : Int)) ro (mkC q a' c' e (stateN (stM R full)).2.full R' r)) :
    CallOk Tryd.prog 13 #[ptr' q] ro (mkC q a c e full R r) K :=
  nstate_ok (by have := ho.le; rw [stM_len] at this; exact this) fun a' c' R' h => hk a' c' R' (stM_eq h)
theorem nedge_st {q c : Nat} {a : Option Addr} {e : Int} {full : Bool} {R : List RowM} {f : Nat} {x : EdgeD} (ho : StOk (stM R full)) (hf : f < R.length) (hb : budN (stM R full) ≤ 1000000)
    (hk : ∀ R', stM R' full = edgeN f x (stM R full) → K (.tuple #[]) ro (mkC q a c e full R' r)) :
    CallOk Tryd.prog 32 #[ptr' q, .int .i64 (f : Int), .agg (edgeV x).toArray] ro (mkC q a c e full R r) K := by
  obtain ⟨row, hr⟩ : ∃ row, R[f]? = some row := ⟨_, List.getElem?_eq_getElem hf⟩
  refine nedge_ok hr ?_ (by have := ho.le; rw [stM_len] at this; exact this) fun R' h1 h2 => hk R' ?_
  · have := row_ofM (full := full) hr
    unfold budN at hb; omega
  · have := stM_eq h1
    exact this
theorem mk_in2 (x y : Chunk) (q : Nat) (a : Option Addr) (c : Nat) (e : Int) (full : Bool) (R : List RowM) (r : Chs) : (x :: y :: mkC q a c e full R r).Perm (mkC q a c e full R (x :: y :: r)) :=
  ((mk_in y q a c e full R r).cons x).trans (mk_in x q a c e full R (y :: r))
theorem dropN_cons {α : Type} {l : List α} {i : Nat} {x : α} (h : l[i]? = some x) : l.drop i = x :: l.drop (i + 1) := by
  obtain ⟨h1, h2⟩ := List.getElem?_eq_some_iff.1 h
  rw [List.drop_eq_getElem_cons h1, h2]
theorem cat_cons (x : RgD) (l : List RgD) (f : Nat) (st : StD) : catN (x :: l) f st = catN l (nodeN x f st).1 (nodeN x f st).2 := by rw [catN]
theorem alt_cons (x : RgD) (l : List RgD) (f to : Nat) (st : StD) : altN (x :: l) f to st = altN l f to (altN [x] f to st) := by rw [altN, altN, altN]
theorem alt_one (x : RgD) (f to : Nat) (st : StD) : altN [x] f to st = edgeN (nodeN x (stateN st).1 (edgeN f (freeE (stateN st).1) (stateN st).2)).1 (freeE to) (nodeN x (stateN st).1 (edgeN f (freeE (stateN st).1) (stateN st).2)).2 := by rw [altN, altN]
theorem rep_min (F : NodeF) (k f : Nat) (st : StD) (h : st.full = false) : minN F (k + 1) f st = minN F k (F f st).1 (F f st).2 := by rw [minN, if_neg (by rw [h]; decide)]
theorem rep_full (F : NodeF) (k f : Nat) (st : StD) (h : st.full = true) : minN F (k + 1) f st = (true, 0, st) := by rw [minN, if_pos h]
theorem rep_max (F : NodeF) (to k f : Nat) (st : StD) (h : st.full = false) : maxN F to (k + 1) f st = maxN F to k (oneN F to f st).1 (oneN F to f st).2 := by rw [maxN, if_neg (by rw [h]; decide)]
theorem rep_maxF (F : NodeF) (to k f : Nat) (st : StD) (h : st.full = true) : maxN F to (k + 1) f st = (true, 0, st) := by rw [maxN, if_pos h]
set_option maxHeartbeats 16000000 in
theorem nrepeat_ok {x : RgD} (ih : NodeC x) {q c f : Nat} {a : Option Addr} {e : Int} {R : List RowM} {z : SetD} {mn mx : Int} {ad : Option Addr} {cp : Nat} {v : List Value} (hrs : Rs ro ad 1 cp 8 v) (hvv : RgOk ro x v) (hw : wrongD x = 0) (h : ¬ (mn < 0 ∨ 256 < mn ∨ 256 < mx ∨ (0 ≤ mx ∧ mx < mn)))
    (ho : StOk (stM R false)) (hf : f < R.length) (hb : budN (stM R false) + 4 * sizeD x + 4 ≤ 900000)
    (hk : ∀ a' c' R', rowsOf R' = (repeatN (nodeN x) mn mx f (stM R false)).2.rows → K (.int .i64 ((repeatN (nodeN x) mn mx f (stM R false)).1 : Int)) ro (mkC q a' c' e (repeatN (nodeN x) mn mx f (stM R false)).2.full R' r)) :
    CallOk Tryd.prog 33 #[ptr' q, .agg (nodeV 5 z ad 1 cp mn mx).toArray, .int .i64 (f : Int)] ro (mkC q a c e false R r) K := by
  have hM := made_node x hw
  obtain ⟨ak, ck, hvk⟩ := hvv.cells
  have hvk0 : (v.drop 0).take 8 = nodeV x.kind x.set ak x.kids.length ck x.min x.max := by rw [hvk]; rfl
  rw [hvk] at hvv
  have hRl := stM_len R false
  unfold repeatN at hk
  obtain ⟨n, hn⟩ : ∃ n : Nat, mn = (n : Int) := ⟨mn.toNat, by omega⟩
  have hmn : mn.toNat = n := by omega
  rw [hmn] at hk
  refine CallOk.intro (args := [_, _, _]) (rs := [_]) T_ok Tryd.func33 Tryd.call33 rfl rfl (by kernel_rfl) rfl rfl ?_
  repeat (first | exact endA | refine wkP ?_ | refine opB (fun b => ?_) | refine opA (fun a' c' hc1 hc2 => ?_) | (apply GJ.and; exact rfl; intro hg) | (apply GJ.or; exact rfl; intro hg))
  obtain ⟨bN, hbN⟩ : ∃ z : Nat, z = b := ⟨_, rfl⟩
  subst hbN
  refine LoopOk.at (ι := Nat × Nat × List RowM × Bool × Option Addr × Nat) Keep.auto (fun (i, fi, R2, u2, a2, c2) => [(12, .int .i64 (i : Int)), (2, .int .i64 (fi : Int))]) (fun (i, fi, R2, u2, a2, c2) => .blk bN 33 (nodeV 5 z ad 1 cp mn mx) :: mkC q a2 c2 e u2 R2 r) (fun (i, fi, R2, u2, a2, c2) => i ≤ n ∧ minN (nodeN x) n f (stM R false) = minN (nodeN x) (n - i) fi (stM R2 u2) ∧ StOk (stM R2 u2) ∧ fi < R2.length ∧ budN (stM R2 u2) ≤ budN (stM R false) + 4 * sizeD x ∧ (u2 = false → budN (stM R2 u2) ≤ budN (stM R false))) (fun (i, fi, R2, u2, a2, c2) => n - i) (0, f, R, false, a, c) ?_ Sub.auto Sup.auto ?_
  · exact ⟨Nat.zero_le _, rfl, ho, hf, by omega, fun _ => Nat.le_refl _⟩
  rintro ⟨i, fi, R2, u2, a2, c2⟩ ⟨i1, i2, i3, i4, i5, i6⟩
  dsimp only [List.cons_append, List.nil_append] at i1 i2 i3 i4 i5 i6 ⊢
  have hR2 := stM_len R2 u2
  by_cases hi : i < n
  · rw [show n - i = (n - (i + 1)) + 1 by omega] at i2
    cases u2 with
    | true =>
      rw [rep_full _ _ _ _ rfl] at i2
      rw [i2] at hk
      repeat (first | exact endA | refine wkP ?_ | refine opB (fun b => ?_) | refine opA (fun a' c' hc1 hc2 => ?_) | (apply GJ.and; exact rfl; intro hg) | (apply GJ.or; exact rfl; intro hg))
      exact Wk.own _ (Sup.drop _ (Sup.all _)) (Wk.id (hk a2 c2 R2 rfl))
    | false =>
      rw [rep_min _ _ _ _ rfl] at i2
      have hmd := (hM fi (stM R2 false) i3 (by omega)).1
      have hbd := bud_made hmd
      have i6 := i6 rfl
      repeat (first | exact endA | refine wkP ?_ | refine opB (fun b => ?_) | refine opA (fun a' c' hc1 hc2 => ?_) | (apply GJ.and; exact rfl; intro hg) | (apply GJ.or; exact rfl; intro hg))
      refine OpOk.loadRow rfl rfl (LdN.at (k := 0) hrs hvk0) rfl ?_
      repeat (first | exact endA | refine wkP ?_ | refine opB (fun b => ?_) | refine opA (fun a' c' hc1 hc2 => ?_) | (apply GJ.and; exact rfl; intro hg) | (apply GJ.or; exact rfl; intro hg))
      refine CallOk.perm (mk_in _ _ _ _ _ _ _ _) ?_
      refine ih.run hvv hw i3 i4 (.inr (by omega)) (fun a3 c3 R3 h3 => ?_)
      have e3 := stM_eq h3
      generalize nodeN x fi (stM R2 false) = p at *
      have hlt := hmd.lt
      have l3 : R3.length = p.2.rows.length := by rw [← e3, stM_len]
      repeat (first | exact endA | refine wkP ?_ | refine opB (fun b => ?_) | refine opA (fun a' c' hc1 hc2 => ?_) | (apply GJ.and; exact rfl; intro hg) | (apply GJ.or; exact rfl; intro hg))
      refine Wk.perm (mk_in _ _ _ _ _ _ _ _).symm ?_
      refine Wk.id ⟨(i + 1, p.1, R3, p.2.full, a3, c3), ⟨rfl, ?_⟩, ?_, Sub.auto, Sup.auto⟩
      all_goals try dsimp only
      · exact ⟨by omega, by rw [e3]; exact i2, by rw [e3]; exact hmd.ok, by omega, by rw [e3]; omega, fun hu => by rw [e3]; have := hbd.2 hu; omega⟩
      · omega
  · obtain rfl : i = n := by omega
    rw [Nat.sub_self, minN] at i2
    rw [i2] at hk
    dsimp only at hk
    repeat (first | exact endA | refine wkP ?_ | refine opB (fun b => ?_) | refine opA (fun a' c' hc1 hc2 => ?_) | (apply GJ.and; exact rfl; intro hg) | (apply GJ.or; exact rfl; intro hg))
    refine CallOk.perm (mk_in _ _ _ _ _ _ _ _) ?_
    refine nstate_st i3 (fun a0 c0 R0 h0 => ?_)
    have m0 := made_state i3
    have d0 := (bud_state _ i3).1
    have d1 := (bud_state _ i3).2
    have k0 := m0.keep
    have g0 := m0.grow
    have t0 := m0.lt
    have o0 := m0.ok
    generalize stateN (stM R2 u2) = p0 at *
    have l0 : R0.length = p0.2.rows.length := by rw [← h0, stM_len]
    by_cases hmx : mx < 0
    · rw [if_pos hmx] at hk
      unfold loopN at hk
      dsimp only at hk
      repeat (first | exact endA | refine wkP ?_ | refine opB (fun b => ?_) | refine opA (fun a' c' hc1 hc2 => ?_) | (apply GJ.and; exact rfl; intro hg) | (apply GJ.or; exact rfl; intro hg))
      refine nstate_st (by rw [h0]; exact o0) (fun a3 c3 R3 h3 => ?_)
      rw [h0] at h3
      rw [h0]
      have m1 := made_state o0
      have t1 := m1.lt
      have b1 := (bud_state _ o0).1
      have b2 := (bud_state _ o0).2
      have k1 := m1.keep
      have g1 := m1.grow
      have o1 := m1.ok
      generalize stateN p0.2 = p1 at *
      have l3 : R3.length = p1.2.rows.length := by rw [← h3, stM_len]
      repeat (first | exact endA | refine wkP ?_ | refine opB (fun b => ?_) | refine opA (fun a' c' hc1 hc2 => ?_) | (apply GJ.and; exact rfl; intro hg) | (apply GJ.or; exact rfl; intro hg))
      refine nedge_st (x := freeE p1.1) (by rw [h3]; exact o1) (by omega) (by rw [h3]; omega) (fun R4 h4 => ?_)
      rw [h3] at h4
      have o2 : StOk (edgeN fi (freeE p1.1) p1.2) := o1.edge t1
      have e2 := edge_len fi (freeE p1.1) p1.2
      have b3 := bud_edge fi (freeE p1.1) p1.2
      have u3 := edge_full fi (freeE p1.1) p1.2
      generalize edgeN fi (freeE p1.1) p1.2 = s2 at *
      have l4 : R4.length = s2.rows.length := by rw [← h4, stM_len]
      repeat (first | exact endA | refine wkP ?_ | refine opB (fun b => ?_) | refine opA (fun a' c' hc1 hc2 => ?_) | (apply GJ.and; exact rfl; intro hg) | (apply GJ.or; exact rfl; intro hg))
      refine nedge_st (x := freeE p0.1) (by rw [h4]; exact o2) (by omega) (by rw [h4]; omega) (fun R5 h5 => ?_)
      rw [h4] at h5
      have o3 : StOk (edgeN p1.1 (freeE p0.1) s2) := o2.edge (show p0.1 < s2.rows.length by omega)
      have e3 := edge_len p1.1 (freeE p0.1) s2
      have b4 := bud_edge p1.1 (freeE p0.1) s2
      have u4 := edge_full p1.1 (freeE p0.1) s2
      generalize edgeN p1.1 (freeE p0.1) s2 = s3 at *
      have l5 : R5.length = s3.rows.length := by rw [← h5, stM_len]
      have hmd := (hM p1.1 s3 o3 (by omega)).1
      have hmd2 := (hM p1.1 s3 o3 (by omega)).2
      have hmb := bud_made hmd
      repeat (first | exact endA | refine wkP ?_ | refine opB (fun b => ?_) | refine opA (fun a' c' hc1 hc2 => ?_) | (apply GJ.and; exact rfl; intro hg) | (apply GJ.or; exact rfl; intro hg))
      refine OpOk.loadRow rfl rfl (LdN.at (k := 0) hrs hvk0) rfl ?_
      repeat (first | exact endA | refine wkP ?_ | refine opB (fun b => ?_) | refine opA (fun a' c' hc1 hc2 => ?_) | (apply GJ.and; exact rfl; intro hg) | (apply GJ.or; exact rfl; intro hg))
      refine ih.run hvv hw (by rw [h5]; exact o3) (by omega) (by
        rw [h5]
        cases hu : p1.2.full with
        | true => exact .inl rfl
        | false =>
          have hu0 : p0.2.full = false := by cases hh : p0.2.full with
            | false => rfl
            | true => rw [k1 hh] at hu; cases hu
          have hu2 : u2 = false := by cases hh : u2 with
            | false => rfl
            | true => have := k0 hh; rw [this] at hu0; cases hu0
          have := b2 hu; have := d1 hu0; have := i6 hu2
          exact .inr (by omega)) (fun a6 c6 R6 h6 => ?_)
      rw [h5] at h6
      have e6 := stM_eq h6
      rw [h5]
      have hbb : budN (nodeN x p1.1 s3).2 ≤ 900000 + 100 := by
        cases hu : s3.full with
        | true =>
          have h1 := hmd2 hu
          have h2 := hmd.grow
          have h3 := full_len o3 hmd.ok h2 hu
          unfold budN at *; omega
        | false =>
          have hu1 : p1.2.full = false := by rw [← u3, ← u4]; exact hu
          have hu0 : p0.2.full = false := by cases hh : p0.2.full with
            | false => rfl
            | true => rw [k1 hh] at hu1; cases hu1
          have hu2 : u2 = false := by cases hh : u2 with
            | false => rfl
            | true => have := k0 hh; rw [this] at hu0; cases hu0
          have := b2 hu1; have := d1 hu0; have := i6 hu2
          omega
      generalize nodeN x p1.1 s3 = p6 at *
      have l6 : R6.length = p6.2.rows.length := by rw [← e6, stM_len]
      have t6 := hmd.lt
      repeat (first | exact endA | refine wkP ?_ | refine opB (fun b => ?_) | refine opA (fun a' c' hc1 hc2 => ?_) | (apply GJ.and; exact rfl; intro hg) | (apply GJ.or; exact rfl; intro hg))
      refine nedge_st (x := freeE p1.1) (by rw [e6]; exact hmd.ok) (by omega) (by rw [e6]; omega) (fun R7 h7 => ?_)
      rw [e6] at h7
      repeat (first | exact endA | refine wkP ?_ | refine opB (fun b => ?_) | refine opA (fun a' c' hc1 hc2 => ?_) | (apply GJ.and; exact rfl; intro hg) | (apply GJ.or; exact rfl; intro hg))
      exact Wk.perm (mk_in _ _ _ _ _ _ _ _).symm (Wk.own _ (Sup.drop _ (Sup.all _)) (Wk.id (hk a6 c6 R7 (congrArg StD.rows h7))))
    · rw [if_neg hmx] at hk
      obtain ⟨m, hm⟩ : ∃ m : Nat, mx - mn = (m : Int) := ⟨(mx - mn).toNat, by omega⟩
      rw [hm, Int.toNat_natCast] at hk
      repeat (first | exact endA | refine wkP ?_ | refine opB (fun b => ?_) | refine opA (fun a' c' hc1 hc2 => ?_) | (apply GJ.and; exact rfl; intro hg) | (apply GJ.or; exact rfl; intro hg))
      rw [hm]
      refine LoopOk.at (ι := Nat × Nat × List RowM × Bool × Option Addr × Nat) Keep.auto (fun (j, fj, R3, u3, a3, c3) => [(60, .int .i64 (j : Int)), (2, .int .i64 (fj : Int))]) (fun (j, fj, R3, u3, a3, c3) => mkC q a3 c3 e u3 R3 (.blk bN 33 (nodeV 5 z ad 1 cp mn mx) :: r)) (fun (j, fj, R3, u3, a3, c3) => j ≤ m ∧ maxN (nodeN x) p0.1 m fi p0.2 = maxN (nodeN x) p0.1 (m - j) fj (stM R3 u3) ∧ StOk (stM R3 u3) ∧ fj < R3.length ∧ p0.2.rows.length ≤ R3.length ∧ budN (stM R3 u3) ≤ budN (stM R false) + 4 * sizeD x + 4 ∧ (u3 = false → budN (stM R3 u3) ≤ budN (stM R false))) (fun (j, fj, R3, u3, a3, c3) => m - j) (0, fi, R0, p0.2.full, a0, c0) ?_ Sub.auto Sup.auto ?_
      · exact ⟨Nat.zero_le _, by rw [h0]; rfl, by rw [h0]; exact o0, by omega, by omega, by rw [h0]; omega, fun hu => by
          rw [h0]
          have hu2 : u2 = false := by cases hh : u2 with
            | false => rfl
            | true => have := k0 hh; rw [this] at hu; cases hu
          have := i6 hu2; omega⟩
      rintro ⟨j, fj, R3, u3, a3, c3⟩ ⟨j1, j2, j3, j4, j5, j6, j7⟩
      dsimp only [List.cons_append, List.nil_append] at j1 j2 j3 j4 j5 j6 j7 ⊢
      have hR3 := stM_len R3 u3
      by_cases hj : j < m
      · rw [show m - j = (m - (j + 1)) + 1 by omega] at j2
        cases u3 with
        | true =>
          rw [rep_maxF _ _ _ _ _ rfl] at j2
          rw [j2] at hk
          repeat (first | exact endA | refine wkP ?_ | refine opB (fun b => ?_) | refine opA (fun a' c' hc1 hc2 => ?_) | (apply GJ.and; exact rfl; intro hg) | (apply GJ.or; exact rfl; intro hg))
          exact Wk.perm (mk_in _ _ _ _ _ _ _ _).symm (Wk.own _ (Sup.drop _ (Sup.all _)) (Wk.id (hk a3 c3 R3 rfl)))
        | false =>
          rw [rep_max _ _ _ _ _ rfl] at j2
          have j7 := j7 rfl
          have hone := MadeF.one hM (to := p0.1) (f0 := fj) j3 (by omega) (by omega)
          have hbone := bud_made hone
          have hoo := hone.ok
          have hog := hone.grow
          have hot := hone.lt
          unfold oneN at j2 hbone hoo hog hot
          have q1 : StOk (edgeN fj (freeE p0.1) (stM R3 false)) := j3.edge (show p0.1 < (stM R3 false).rows.length by omega)
          have q2 := edge_len fj (freeE p0.1) (stM R3 false)
          have q3 := bud_edge fj (freeE p0.1) (stM R3 false)
          repeat (first | exact endA | refine wkP ?_ | refine opB (fun b => ?_) | refine opA (fun a' c' hc1 hc2 => ?_) | (apply GJ.and; exact rfl; intro hg) | (apply GJ.or; exact rfl; intro hg))
          refine nedge_st (x := freeE p0.1) j3 (by omega) (by omega) (fun R4 h4 => ?_)
          generalize edgeN fj (freeE p0.1) (stM R3 false) = s1 at *
          have l4 : R4.length = s1.rows.length := by rw [← h4, stM_len]
          repeat (first | exact endA | refine wkP ?_ | refine opB (fun b => ?_) | refine opA (fun a' c' hc1 hc2 => ?_) | (apply GJ.and; exact rfl; intro hg) | (apply GJ.or; exact rfl; intro hg))
          refine nstate_st (by rw [h4]; exact q1) (fun a5 c5 R5 h5 => ?_)
          rw [h4] at h5
          rw [h4]
          have m1 := made_state q1
          have t1 := m1.lt
          have b1 := (bud_state _ q1).1
          have b2 := (bud_state _ q1).2
          have g1 := m1.grow
          have o1 := m1.ok
          generalize stateN s1 = p1 at *
          have l5 : R5.length = p1.2.rows.length := by rw [← h5, stM_len]
          repeat (first | exact endA | refine wkP ?_ | refine opB (fun b => ?_) | refine opA (fun a' c' hc1 hc2 => ?_) | (apply GJ.and; exact rfl; intro hg) | (apply GJ.or; exact rfl; intro hg))
          refine nedge_st (x := freeE p1.1) (by rw [h5]; exact o1) (by omega) (by rw [h5]; omega) (fun R6 h6 => ?_)
          rw [h5] at h6
          have o2 : StOk (edgeN fj (freeE p1.1) p1.2) := o1.edge t1
          have e2 := edge_len fj (freeE p1.1) p1.2
          have b3 := bud_edge fj (freeE p1.1) p1.2
          have u4 := edge_full fj (freeE p1.1) p1.2
          generalize edgeN fj (freeE p1.1) p1.2 = s2 at *
          have l6 : R6.length = s2.rows.length := by rw [← h6, stM_len]
          repeat (first | exact endA | refine wkP ?_ | refine opB (fun b => ?_) | refine opA (fun a' c' hc1 hc2 => ?_) | (apply GJ.and; exact rfl; intro hg) | (apply GJ.or; exact rfl; intro hg))
          refine OpOk.loadRow rfl rfl (LdN.at (k := 0) hrs hvk0) rfl ?_
          repeat (first | exact endA | refine wkP ?_ | refine opB (fun b => ?_) | refine opA (fun a' c' hc1 hc2 => ?_) | (apply GJ.and; exact rfl; intro hg) | (apply GJ.or; exact rfl; intro hg))
          refine ih.run hvv hw (by rw [h6]; exact o2) (by omega) (by
            rw [h6]
            cases hu : p1.2.full with
            | true => exact .inl rfl
            | false => have := b2 hu; exact .inr (by omega)) (fun a7 c7 R7 h7 => ?_)
          rw [h6] at h7
          have e7 := stM_eq h7
          rw [h6]
          generalize nodeN x p1.1 s2 = p7 at *
          have l7 : R7.length = p7.2.rows.length := by rw [← e7, stM_len]
          repeat (first | exact endA | refine wkP ?_ | refine opB (fun b => ?_) | refine opA (fun a' c' hc1 hc2 => ?_) | (apply GJ.and; exact rfl; intro hg) | (apply GJ.or; exact rfl; intro hg))
          refine Wk.id ⟨(j + 1, p7.1, R7, p7.2.full, a7, c7), ⟨rfl, ?_⟩, ?_, Sub.auto, Sup.auto⟩
          all_goals try dsimp only
          · exact ⟨by omega, by rw [e7]; exact j2, by rw [e7]; exact hoo, by omega, by omega, by rw [e7]; omega, fun hu => by rw [e7]; have := hbone.2 hu; omega⟩
          · omega
      · obtain rfl : j = m := by omega
        rw [Nat.sub_self, maxN] at j2
        rw [j2] at hk
        dsimp only at hk
        repeat (first | exact endA | refine wkP ?_ | refine opB (fun b => ?_) | refine opA (fun a' c' hc1 hc2 => ?_) | (apply GJ.and; exact rfl; intro hg) | (apply GJ.or; exact rfl; intro hg))
        refine nedge_st (x := freeE p0.1) j3 (by omega) (by omega) (fun R4 h4 => ?_)
        repeat (first | exact endA | refine wkP ?_ | refine opB (fun b => ?_) | refine opA (fun a' c' hc1 hc2 => ?_) | (apply GJ.and; exact rfl; intro hg) | (apply GJ.or; exact rfl; intro hg))
        exact Wk.perm (mk_in _ _ _ _ _ _ _ _).symm (Wk.own _ (Sup.drop _ (Sup.all _)) (Wk.id (hk a3 c3 R4 (congrArg StD.rows h4))))
set_option maxHeartbeats 8000000 in
theorem nodeC : ∀ n, NodeC n := RgD.ind fun k z l mn mx ih => ⟨fun {ro r K q c f a e full R v} hv hw ho hf hb hk => by
  obtain ⟨hform, hkw⟩ := wrongD_parts hw
  have hF := form_cases hform
  rw [RgOk] at hv
  obtain ⟨ad, cp, cs, rfl, hs, hrs, hks⟩ := hv
  have hle := hrs.le
  have hmx := hrs.max
  unfold maxLen at hmx
  have hRl := stM_len R full
  rw [nodeN] at hk
  dsimp only at hk
  cases full with
  | true =>
    rw [if_pos (show (stM R true).full = true from rfl)] at hk
    refine CallOk.intro (args := [_, _, _]) (rs := [_]) T_ok Tryd.func14 Tryd.call14 rfl rfl (by kernel_rfl) rfl rfl ?_
    repeat (first | exact endA | refine wkP ?_ | refine opB (fun b => ?_) | refine opA (fun a' c' hc1 hc2 => ?_) | (apply GJ.and; exact rfl; intro hg) | (apply GJ.or; exact rfl; intro hg))
    exact Wk.outS Sup.auto (.refl _) (hk a c R rfl)
  | false =>
    rw [if_neg (show ¬ (stM R false).full = true from (by intro h; cases h))] at hk
    have hb : budN (stM R false) + 4 * (sizeK l + 1) ≤ 900000 := by
      rcases hb with hb | hb
      · cases hb
      · rw [sizeD] at hb; exact hb
    cases hF with
    | none s a1 b1 =>
      rw [if_neg (by decide), if_neg (by decide), if_neg (by decide), if_neg (by decide)] at hk
      refine CallOk.intro (args := [_, _, _]) (rs := [_]) T_ok Tryd.func14 Tryd.call14 rfl rfl (by kernel_rfl) rfl rfl ?_
      repeat (first | exact endA | refine wkP ?_ | refine opB (fun b => ?_) | refine opA (fun a' c' hc1 hc2 => ?_) | (apply GJ.and; exact rfl; intro hg) | (apply GJ.or; exact rfl; intro hg))
      exact Wk.outS Sup.auto (.refl _) (hk a c R rfl)
    | one s a1 b1 h =>
      rw [if_pos rfl] at hk
      refine CallOk.intro (args := [_, _, _]) (rs := [_]) T_ok Tryd.func14 Tryd.call14 rfl rfl (by kernel_rfl) rfl rfl ?_
      repeat (first | exact endA | refine wkP ?_ | refine opB (fun b => ?_) | refine opA (fun a' c' hc1 hc2 => ?_) | (apply GJ.and; exact rfl; intro hg) | (apply GJ.or; exact rfl; intro hg))
      refine CallOk.perm (mk_in _ _ _ _ _ _ _ _) ?_
      refine nstate_st ho (fun a2 c2 R2 h2 => ?_)
      have m1 := made_state ho
      have b1 := (bud_state _ ho).1
      generalize stateN (stM R false) = p at *
      have o2 : StOk (stM R2 p.2.full) := by rw [h2]; exact m1.ok
      have l2 : R2.length = p.2.rows.length := by rw [← h2, stM_len]
      have g2 := m1.grow
      repeat (first | exact endA | refine wkP ?_ | refine opB (fun b => ?_) | refine opA (fun a' c' hc1 hc2 => ?_) | (apply GJ.and; exact rfl; intro hg) | (apply GJ.or; exact rfl; intro hg))
      refine nedge_st (x := setE p.1 z) o2 (by omega) (by rw [h2]; omega) (fun R3 h3 => ?_)
      repeat (first | exact endA | refine wkP ?_ | refine opB (fun b => ?_) | refine opA (fun a' c' hc1 hc2 => ?_) | (apply GJ.and; exact rfl; intro hg) | (apply GJ.or; exact rfl; intro hg))
      rw [h2] at h3
      exact Wk.perm (mk_in _ _ _ _ _ _ _ _).symm (Wk.own _ (Sup.drop _ (Sup.all _)) (Wk.id (hk a2 c2 R3 (congrArg StD.rows h3))))
    | cat s x y l a1 b1 =>
      rw [if_neg (by decide), if_pos rfl] at hk
      generalize x :: y :: l = l at *
      refine CallOk.intro (args := [_, _, _]) (rs := [_]) T_ok Tryd.func14 Tryd.call14 rfl rfl (by kernel_rfl) rfl rfl ?_
      repeat (first | exact endA | refine wkP ?_ | refine opB (fun b => ?_) | refine opA (fun a' c' hc1 hc2 => ?_) | (apply GJ.and; exact rfl; intro hg) | (apply GJ.or; exact rfl; intro hg))
      obtain ⟨bN, hbN⟩ : ∃ z : Nat, z = b := ⟨_, rfl⟩
      subst hbN
      refine LoopOk.at (ι := Nat × Nat × List RowM × Bool × Option Addr × Nat) Keep.auto (fun (i, fi, R2, u2, a2, c2) => [(37, .int .i64 (i : Int)), (2, .int .i64 (fi : Int))]) (fun (i, fi, R2, u2, a2, c2) => .blk bN 33 (nodeV 3 z ad l.length cp mn mx) :: mkC q a2 c2 e u2 R2 r) (fun (i, fi, R2, u2, a2, c2) => i ≤ l.length ∧ catN l f (stM R false) = catN (l.drop i) fi (stM R2 u2) ∧ StOk (stM R2 u2) ∧ fi < R2.length ∧ budN (stM R2 u2) + 4 * sizeK (l.drop i) ≤ 900000) (fun (i, fi, R2, u2, a2, c2) => l.length - i) (0, f, R, false, a, c) ?_ Sub.auto Sup.auto ?_
      · exact ⟨Nat.zero_le _, by simp, ho, hf, by rw [List.drop_zero]; omega⟩
      rintro ⟨i, fi, R2, u2, a2, c2⟩ ⟨i1, i2, i3, i4, i5⟩
      dsimp only [List.cons_append, List.nil_append] at i1 i2 i3 i4 i5 ⊢
      by_cases hi : i < l.length
      · obtain ⟨kd, hkd⟩ : ∃ kd, l[i]? = some kd := ⟨_, List.getElem?_eq_getElem hi⟩
        have hmk := List.mem_of_getElem? hkd
        have hvv := hks.get hkd
        obtain ⟨ak, ck, hvk⟩ := hvv.cells
        rw [hvk] at hvv
        rw [dropN_cons hkd, cat_cons] at i2
        rw [dropN_cons hkd, sizeK] at i5
        have hwk := wrongK_all hkw kd hmk
        have hmd := (made_node kd hwk fi (stM R2 u2) i3 (by rw [stM_len]; exact i4)).1
        have hbd := (bud_made hmd).1
        repeat (first | exact endA | refine wkP ?_ | refine opB (fun b => ?_) | refine opA (fun a' c' hc1 hc2 => ?_) | (apply GJ.and; exact rfl; intro hg) | (apply GJ.or; exact rfl; intro hg))
        rw [Int.toNat_natCast]
        refine OpOk.loadRow rfl rfl (LdN.at hrs hvk) rfl ?_
        repeat (first | exact endA | refine wkP ?_ | refine opB (fun b => ?_) | refine opA (fun a' c' hc1 hc2 => ?_) | (apply GJ.and; exact rfl; intro hg) | (apply GJ.or; exact rfl; intro hg))
        refine CallOk.perm (mk_in2 _ _ _ _ _ _ _ _ _) ?_
        refine (ih kd hmk).run hvv hwk i3 i4 (.inr (by omega)) (fun a3 c3 R3 h3 => ?_)
        have e3 := stM_eq h3
        generalize nodeN kd fi (stM R2 u2) = p at *
        have hlt := hmd.lt
        have l3 : R3.length = p.2.rows.length := by rw [← e3, stM_len]
        repeat (first | exact endA | refine wkP ?_ | refine opB (fun b => ?_) | refine opA (fun a' c' hc1 hc2 => ?_) | (apply GJ.and; exact rfl; intro hg) | (apply GJ.or; exact rfl; intro hg))
        refine Wk.perm (mk_in2 _ _ _ _ _ _ _ _ _).symm ?_
        refine Wk.id ⟨(i + 1, p.1, R3, p.2.full, a3, c3), ⟨rfl, ?_⟩, ?_, Sub.auto, Sup.auto⟩
        all_goals try dsimp only
        · exact ⟨by omega, by rw [e3]; exact i2, by rw [e3]; exact hmd.ok, by omega, by rw [e3]; omega⟩
        · omega
      · obtain rfl : i = l.length := by omega
        rw [List.drop_length, catN] at i2
        rw [i2] at hk
        repeat (first | exact endA | refine wkP ?_ | refine opB (fun b => ?_) | refine opA (fun a' c' hc1 hc2 => ?_) | (apply GJ.and; exact rfl; intro hg) | (apply GJ.or; exact rfl; intro hg))
        exact Wk.own _ (Sup.drop _ (Sup.all _)) (Wk.id (hk a2 c2 R2 rfl))
    | alt s x y l a1 b1 =>
      rw [if_neg (by decide), if_neg (by decide), if_pos rfl] at hk
      generalize x :: y :: l = l at *
      refine CallOk.intro (args := [_, _, _]) (rs := [_]) T_ok Tryd.func14 Tryd.call14 rfl rfl (by kernel_rfl) rfl rfl ?_
      repeat (first | exact endA | refine wkP ?_ | refine opB (fun b => ?_) | refine opA (fun a' c' hc1 hc2 => ?_) | (apply GJ.and; exact rfl; intro hg) | (apply GJ.or; exact rfl; intro hg))
      obtain ⟨bN, hbN⟩ : ∃ z : Nat, z = b := ⟨_, rfl⟩
      subst hbN
      refine CallOk.perm (mk_in _ _ _ _ _ _ _ _) ?_
      refine nstate_st ho (fun a0 c0 R0 h0 => ?_)
      have m0 := made_state ho
      have d0 := (bud_state _ ho).1
      have g0 := m0.grow
      have t0 := m0.lt
      have o0 := m0.ok
      generalize stateN (stM R false) = p0 at *
      have l0 : R0.length = p0.2.rows.length := by rw [← h0, stM_len]
      repeat (first | exact endA | refine wkP ?_ | refine opB (fun b => ?_) | refine opA (fun a' c' hc1 hc2 => ?_) | (apply GJ.and; exact rfl; intro hg) | (apply GJ.or; exact rfl; intro hg))
      refine LoopOk.at (ι := Nat × List RowM × Bool × Option Addr × Nat) Keep.auto (fun (i, R2, u2, a2, c2) => [(54, .int .i64 (i : Int))]) (fun (i, R2, u2, a2, c2) => mkC q a2 c2 e u2 R2 (.blk bN 33 (nodeV 4 z ad l.length cp mn mx) :: r)) (fun (i, R2, u2, a2, c2) => i ≤ l.length ∧ altN l f p0.1 p0.2 = altN (l.drop i) f p0.1 (stM R2 u2) ∧ StOk (stM R2 u2) ∧ p0.2.rows.length ≤ R2.length ∧ budN (stM R2 u2) + 4 * sizeK (l.drop i) ≤ 900000) (fun (i, R2, u2, a2, c2) => l.length - i) (0, R0, p0.2.full, a0, c0) ?_ Sub.auto Sup.auto ?_
      · exact ⟨Nat.zero_le _, by rw [h0]; simp, by rw [h0]; exact o0, by omega, by rw [List.drop_zero, h0]; omega⟩
      rintro ⟨i, R2, u2, a2, c2⟩ ⟨i1, i2, i3, i4, i5⟩
      dsimp only [List.cons_append, List.nil_append] at i1 i2 i3 i4 i5 ⊢
      have hR2 := stM_len R2 u2
      by_cases hi : i < l.length
      · obtain ⟨kd, hkd⟩ : ∃ kd, l[i]? = some kd := ⟨_, List.getElem?_eq_getElem hi⟩
        have hmk := List.mem_of_getElem? hkd
        have hvv := hks.get hkd
        obtain ⟨ak, ck, hvk⟩ := hvv.cells
        rw [hvk] at hvv
        rw [dropN_cons hkd, alt_cons] at i2
        rw [dropN_cons hkd, sizeK] at i5
        have hwk := wrongK_all hkw kd hmk
        have hsz := sizeD_pos kd
        have hone := made_alt [kd] (fun y hy => by rw [List.mem_singleton.1 hy]; exact made_node kd hwk) f p0.1 (stM R2 u2) i3 (by omega) (by omega)
        have hbone := (bud_made hone).1
        rw [sizeK, sizeK] at hbone
        have hoo := hone.ok
        have hog := hone.grow
        rw [alt_one] at i2 hbone hoo hog
        dsimp only at hbone hoo hog
        have m1 := made_state i3
        have t1 := m1.lt
        have b1 := (bud_state _ i3).1
        have b2 := (bud_state _ i3).2
        have g1 := m1.grow
        repeat (first | exact endA | refine wkP ?_ | refine opB (fun b => ?_) | refine opA (fun a' c' hc1 hc2 => ?_) | (apply GJ.and; exact rfl; intro hg) | (apply GJ.or; exact rfl; intro hg))
        rw [Int.toNat_natCast]
        refine OpOk.loadRow rfl rfl (LdN.at hrs hvk) rfl ?_
        repeat (first | exact endA | refine wkP ?_ | refine opB (fun b => ?_) | refine opA (fun a' c' hc1 hc2 => ?_) | (apply GJ.and; exact rfl; intro hg) | (apply GJ.or; exact rfl; intro hg))
        refine CallOk.perm (mk_in _ _ _ _ _ _ _ _) ?_
        refine nstate_st i3 (fun a3 c3 R3 h3 => ?_)
        have o1 := m1.ok
        generalize stateN (stM R2 u2) = p1 at *
        have l3 : R3.length = p1.2.rows.length := by rw [← h3, stM_len]
        repeat (first | exact endA | refine wkP ?_ | refine opB (fun b => ?_) | refine opA (fun a' c' hc1 hc2 => ?_) | (apply GJ.and; exact rfl; intro hg) | (apply GJ.or; exact rfl; intro hg))
        refine nedge_st (x := freeE p1.1) (by rw [h3]; exact o1) (by omega) (by rw [h3]; omega) (fun R4 h4 => ?_)
        rw [h3] at h4
        have o2 : StOk (edgeN f (freeE p1.1) p1.2) := o1.edge t1
        have e2 := edge_len f (freeE p1.1) p1.2
        have b3 := bud_edge f (freeE p1.1) p1.2
        have u3 := edge_full f (freeE p1.1) p1.2
        generalize edgeN f (freeE p1.1) p1.2 = s2 at *
        have l4 : R4.length = s2.rows.length := by rw [← h4, stM_len]
        have hmd := (made_node kd hwk p1.1 s2 o2 (by omega)).1
        have hmb := bud_made hmd
        repeat (first | exact endA | refine wkP ?_ | refine opB (fun b => ?_) | refine opA (fun a' c' hc1 hc2 => ?_) | (apply GJ.and; exact rfl; intro hg) | (apply GJ.or; exact rfl; intro hg))
        refine (ih kd hmk).run hvv hwk (by rw [h4]; exact o2) (by omega) (by
          rw [h4]
          cases hu : p1.2.full with
          | true => exact .inl rfl
          | false => have := b2 hu; exact .inr (by omega)) (fun a5 c5 R5 h5 => ?_)
        rw [h4] at h5
        have e5 := stM_eq h5
        rw [h4]
        generalize nodeN kd p1.1 s2 = p5 at *
        have l5 : R5.length = p5.2.rows.length := by rw [← e5, stM_len]
        have g5 := hmd.grow
        have t5 := hmd.lt
        repeat (first | exact endA | refine wkP ?_ | refine opB (fun b => ?_) | refine opA (fun a' c' hc1 hc2 => ?_) | (apply GJ.and; exact rfl; intro hg) | (apply GJ.or; exact rfl; intro hg))
        refine nedge_st (x := freeE p0.1) (by rw [e5]; exact hmd.ok) (by omega) (by rw [e5]; omega) (fun R6 h6 => ?_)
        rw [e5] at h6
        have e6 := edge_len p5.1 (freeE p0.1) p5.2
        repeat (first | exact endA | refine wkP ?_ | refine opB (fun b => ?_) | refine opA (fun a' c' hc1 hc2 => ?_) | (apply GJ.and; exact rfl; intro hg) | (apply GJ.or; exact rfl; intro hg))
        refine Wk.perm (mk_in _ _ _ _ _ _ _ _).symm ?_
        have l6 : R6.length = R5.length := by have := congrArg (fun st : StD => st.rows.length) h6; rw [stM_len, e6] at this; omega
        refine Wk.id ⟨(i + 1, R6, p5.2.full, a5, c5), ⟨rfl, ?_⟩, ?_, Sub.auto, Sup.auto⟩
        all_goals try dsimp only
        · exact ⟨by omega, by rw [h6]; exact i2, by rw [h6]; exact hoo, by omega, by rw [h6]; omega⟩
        · omega
      · obtain rfl : i = l.length := by omega
        rw [List.drop_length, altN] at i2
        rw [i2] at hk
        repeat (first | exact endA | refine wkP ?_ | refine opB (fun b => ?_) | refine opA (fun a' c' hc1 hc2 => ?_) | (apply GJ.and; exact rfl; intro hg) | (apply GJ.or; exact rfl; intro hg))
        exact Wk.perm (mk_in _ _ _ _ _ _ _ _).symm (Wk.own _ (Sup.drop _ (Sup.all _)) (Wk.id (hk a2 c2 R2 rfl)))
    | rep s x a1 b1 h =>
      rw [if_neg (by decide), if_neg (by decide), if_neg (by decide), if_pos rfl] at hk
      have hkid : kidN [x] = nodeN x := by rw [kidN]
      rw [hkid] at hk
      have hk1 := RgsOk.single hks
      have hsk : sizeK [x] = sizeD x := by simp [sizeK]
      have hb2 : budN (stM R false) + 4 * sizeD x + 4 ≤ 900000 := by
        rcases hb with h | h
        · cases h
        · rw [sizeD, hsk] at h; omega
      refine CallOk.intro (args := [_, _, _]) (rs := [_]) T_ok Tryd.func14 Tryd.call14 rfl rfl (by kernel_rfl) rfl rfl ?_
      repeat (first | exact endA | refine wkP ?_ | refine opB (fun b => ?_) | refine opA (fun a' c' hc1 hc2 => ?_) | (apply GJ.and; exact rfl; intro hg) | (apply GJ.or; exact rfl; intro hg))
      refine CallOk.perm (mk_in _ _ _ _ _ _ _ _) ?_
      refine nrepeat_ok (ih x (List.mem_singleton.2 rfl)) hrs hk1 (wrongK_all (l := [x]) hkw x (List.mem_singleton.2 rfl)) h ho hf hb2 (fun a2 c2 R2 h2 => ?_)
      repeat (first | exact endA | refine wkP ?_ | refine opB (fun b => ?_) | refine opA (fun a' c' hc1 hc2 => ?_) | (apply GJ.and; exact rfl; intro hg) | (apply GJ.or; exact rfl; intro hg))
      exact Wk.perm (mk_in _ _ _ _ _ _ _ _).symm (Wk.own _ (Sup.drop _ (Sup.all _)) (Wk.id (hk a2 c2 R2 h2)))⟩
end
end Go.Proofs.YtinbmhbfcoiefaaDoor
end
section
/- Contracts of regex: alt, Parse. -/
namespace Go.Proofs.YtinbmhbfcoiefaaDoor
open Go Go.E
set_option linter.unusedVariables false
set_option linter.unusedSimpArgs false
set_option maxRecDepth 10000
theorem alt_none {t : List UInt8} {alt : RS → RgD × RS} {k : Nat} {l : List RgD} {s : RS} (h : ¬ peekD t s = 124) : altL t alt k l s = (l, s) := by
  cases k with
  | zero => rfl
  | succ k => rw [altL, if_neg h]
theorem cat_more {t : List UInt8} {d : Nat} {s : RS} (h : (catD t (altD t d) s).2.e = 0) : s.p ≤ (catD t (altD t d) s).2.p := by
  obtain ⟨l, ⟨r1, _⟩, _⟩ := cat_sound (t := t) (alt := altD t d) ⟨fun h => alt_sound h, fun h => alt_keep h⟩ h
  rw [r1]; show s.p ≤ s.p + l.length; omega
set_option maxHeartbeats 8000000 in
theorem altC {t : List UInt8} (hl : t.length ≤ 10000) : ∀ d : Nat, d ≤ 33 → AltC t d := by
  intro d
  induction d with
  | zero =>
    intro _
    unfold AltC
    intro ro own g q s K hb hi h0 hn hk
    obtain ⟨r, p1, p2⟩ := hb.split
    refine CallOk.perm p1 ?_
    refine CallOk.intro (args := [_, _]) (rs := [_]) T_ok Tryd.func18 Tryd.call18 rfl rfl (by kernel_rfl) rfl rfl ?_
    repeat (first | exact endA | refine wkP ?_ | refine opB (fun b => ?_) | refine opA (fun a' c' hc1 hc2 => ?_) | (apply GJ.and; exact rfl; intro hg) | (apply GJ.or; exact rfl; intro hg))
    refine rwrong_ok (t := t) (s := s) 6 s.p rfl rfl ?_
    repeat (first | exact endA | refine wkP ?_ | refine opB (fun b => ?_) | refine opA (fun a' c' hc1 hc2 => ?_) | (apply GJ.and; exact rfl; intro hg) | (apply GJ.or; exact rfl; intro hg))
    exact Wk.outS Sup.auto (p2 _) (hk ro _ (.refl _) (RgOk.leaf zeroS_in))
  | succ d ih =>
    intro hd
    have ha : AltC t d := ih (by omega)
    unfold AltC
    intro ro own g q s K hb hi h0 hn hk
    obtain ⟨r, p1, p2⟩ := hb.split
    refine CallOk.perm p1 ?_
    have hp := hi.p0 h0
    rw [altD] at hk
    obtain ⟨R, hR⟩ : ∃ R, R = altL t (altD t d) (t.length + 1) [(catD t (altD t d) s).1] (catD t (altD t d) s).2 := ⟨_, rfl⟩
    rw [← hR] at hk
    have hic : Inv t (catD t (altD t d) s).2 := hi.cat (fun h _ => Inv.alt h)
    have hnc : NB (513 + 2 * d + 1) (catD t (altD t d) s).2 := NB.cat (t := t) (by omega) (fun h0 hn => NB.alt h0 hn) ⟨fun _ => hn, by omega⟩
    have hmc := cat_more (t := t) (d := d) (s := s)
    have hx : 33 - ((d + 1 : Nat) : Int) = 32 - (d : Int) := by omega
    rw [hx]
    generalize hX : 32 - (d : Int) = X
    have hX : X = 32 - (d : Int) := hX.symm
    refine CallOk.intro (args := [_, _]) (rs := [_]) T_ok Tryd.func18 Tryd.call18 rfl rfl (by kernel_rfl) rfl rfl ?_
    repeat (first | exact endA | refine wkP ?_ | refine opB (fun b => ?_) | refine opA (fun a' c' hc1 hc2 => ?_) | (apply GJ.and; exact rfl; intro hg) | (apply GJ.or; exact rfl; intro hg))
    obtain ⟨b4, hb4⟩ : ∃ z : Nat, z = b := ⟨_, rfl⟩
    subst hb4
    refine cat_ok (t := t) (s := s) ha hX (by omega) hi h0 hn hl (fun ro1 v hl1 hv => ?_)
    generalize (catD t (altD t d) s).1 = n0 at hR hv
    generalize (catD t (altD t d) s).2 = s0 at hR hic hnc hmc ⊢
    obtain ⟨a1, c1, hvc⟩ := hv.cells
    subst hvc
    repeat (first | exact endA | refine wkP ?_ | refine opB (fun b => ?_) | refine opA (fun a' c' hc1 hc2 => ?_) | (apply GJ.and; exact rfl; intro hg) | (apply GJ.or; exact rfl; intro hg))
    refine LoopOk.auto (ι := Nat × List RgD × List Value × RS × Option Addr × Nat) Keep.auto (fun (k, l, cs, s1, ad, cp) => [(5, .slice ad l.length cp)]) (fun (k, l, cs, s1, ad, cp) => .sl ad l.length cp 33 8 cs :: .blk b4 33 (nodeV 0 zeroS none 0 0 0 0) :: .blk q 56 (rsV t s1) :: r) (fun (k, l, cs, s1, ad, cp) ro2 => RgsOk ro2 l cs ∧ altL t (altD t d) k l s1 = R ∧ (s1.e = 0 → t.length + 1 ≤ k + s1.p ∧ l.length ≤ s1.p + 1) ∧ (1 ≤ l.length ∧ l.length ≤ t.length + 2) ∧ Inv t s1 ∧ NB (513 + 2 * d + 1) s1 ∧ l.length ≤ cp ∧ cp ≤ maxLen) (fun (k, l, cs, s1, ad, cp) => k) (t.length + 1, [n0], nodeV n0.kind n0.set a1 n0.kids.length c1 n0.min n0.max, s0, some ⟨b, 0, none⟩, 1) ?_ Sub.auto Sup.auto ?_
    · refine ⟨?_, hR.symm, fun h => ⟨by have := hmc h; omega, by simp⟩, by simp, hic, hnc, by simp, by decide⟩
      rw [RgsOk]; exact ⟨_, [], by simp, hv, by rw [RgsOk]⟩
    rintro ⟨k, l, cs, s1, ad, cp⟩ ro2 hl2 ⟨i1, i2, i3, i4, i5, i6, i7, i8⟩
    dsimp only [List.cons_append, List.nil_append] at i1 i2 i3 i4 i5 i6 i7 i8 ⊢
    have hp1 := i5.p
    have hn1 := i6.n
    have hL : cs.length = l.length * 8 := i1.len
    repeat (first | exact endA | refine wkP ?_ | refine opB (fun b => ?_) | refine opA (fun a' c' hc1 hc2 => ?_) | (apply GJ.and; exact rfl; intro hg) | (apply GJ.or; exact rfl; intro hg))
    refine eat_ok (t := t) (s := s1) 124 rfl (by decide) (by omega) ?_
    by_cases h124 : ¬ peekD t s1 = 124
    · rw [alt_none h124] at i2
      rw [← i2] at hk
      rw [decide_eq_false h124, eatS, if_neg h124]
      repeat (first | exact endA | refine wkP ?_ | refine opB (fun b => ?_) | refine opA (fun a' c' hc1 hc2 => ?_) | (apply GJ.and; exact rfl; intro hg) | (apply GJ.or; exact rfl; intro hg))
      rcases l with _ | ⟨x1, _ | ⟨y1, l1⟩⟩
      · exact absurd i4.1 (by decide)
      · rw [show ([x1] : List RgD).length = 1 from rfl] at i4 i7 hL ⊢
        have hv := i1.single
        obtain ⟨a1, c1, hvc⟩ := hv.cells
        subst hvc
        repeat (first | exact endA | refine wkP ?_ | refine opB (fun b => ?_) | refine opA (fun a' c' hc1 hc2 => ?_) | (apply GJ.and; exact rfl; intro hg) | (apply GJ.or; exact rfl; intro hg))
        refine OpOk.loadRow rfl rfl (LdN.slRow (k := 0) (z := 8) (cs := nodeV x1.kind x1.set a1 x1.kids.length c1 x1.min x1.max) (vs := nodeV x1.kind x1.set a1 x1.kids.length c1 x1.min x1.max) rfl) rfl ?_
        repeat (first | exact endA | refine wkP ?_ | refine opB (fun b => ?_) | refine opA (fun a' c' hc1 hc2 => ?_) | (apply GJ.and; exact rfl; intro hg) | (apply GJ.or; exact rfl; intro hg))
        exact Wk.outS Sup.auto (p2 _) (hk ro2 _ (hl1.trans hl2) hv)
      · have hlen : 2 ≤ (x1 :: y1 :: l1).length := by simp
        have hcat : altOf (x1 :: y1 :: l1, s1) = (altD' (x1 :: y1 :: l1), nodeS s1) := rfl
        rw [hcat] at hk
        generalize x1 :: y1 :: l1 = l at hk i1 i2 i3 i4 i7 hL hlen ⊢
        refine Br.f (by omega) ?_
        repeat (first | exact endA | refine wkP ?_ | refine opB (fun b => ?_) | refine opA (fun a' c' hc1 hc2 => ?_) | (apply GJ.and; exact rfl; intro hg) | (apply GJ.or; exact rfl; intro hg))
        refine CallOk.freeze (c := .sl ad _ _ _ _ _) Take.auto (fun ro3 hl3 hc3 => ?_)
        have hw := RgOk.many (k := 4) (i1.le hl3) (Rs.last hc3)
        refine node_ok (t := t) (s := s1) (k := 4) (z := zeroS) (a := ad) (m := l.length) (c := cp) (x := 0) (y := 0) (by omega) ?_
        repeat (first | exact endA | refine wkP ?_ | refine opB (fun b => ?_) | refine opA (fun a' c' hc1 hc2 => ?_) | (apply GJ.and; exact rfl; intro hg) | (apply GJ.or; exact rfl; intro hg))
        exact Wk.outS Sup.auto (p2 _) (hk ro3 _ ((hl1.trans hl2).trans hl3) hw)
    · have h124 := Decidable.of_not_not h124
      have hpp := peek_pos (t := t) (s := s1) (by omega)
      obtain ⟨h3, h4⟩ := i3 hpp.1
      obtain ⟨k, rfl⟩ : ∃ j, k = j + 1 := ⟨k - 1, by omega⟩
      rw [altL, if_pos h124] at i2
      rw [decide_eq_true h124, eatS, if_pos h124]
      have hia : Inv t s1.adv := i5.adv (by omega)
      have hin : Inv t (catD t (altD t d) s1.adv).2 := hia.cat (fun h _ => Inv.alt h)
      have hnn : NB (513 + 2 * d + 1) (catD t (altD t d) s1.adv).2 := NB.cat (t := t) (s := s1.adv) (by omega) (fun h0 hn => NB.alt h0 hn) ⟨fun _ => i6.n0 hpp.1, by have := i6.n0 hpp.1; show s1.n ≤ _; omega⟩
      have hmore := cat_more (t := t) (d := d) (s := s1.adv)
      have hap : s1.adv.p = s1.p + 1 := rfl
      repeat (first | exact endA | refine wkP ?_ | refine opB (fun b => ?_) | refine opA (fun a' c' hc1 hc2 => ?_) | (apply GJ.and; exact rfl; intro hg) | (apply GJ.or; exact rfl; intro hg))
      refine cat_ok (t := t) (s := s1.adv) ha hX (by omega) hia hpp.1 (i6.n0 hpp.1) hl (fun ro3 v hl3 hv => ?_)
      generalize (catD t (altD t d) s1.adv).1 = n at i2 hv
      generalize (catD t (altD t d) s1.adv).2 = s2 at i2 hin hnn hmore ⊢
      obtain ⟨a1, c1, hvc⟩ := hv.cells
      subst hvc
      repeat (first | exact endA | refine wkP ?_ | refine opB (fun b => ?_) | refine opA (fun a' c' hc1 hc2 => ?_) | (apply GJ.and; exact rfl; intro hg) | (apply GJ.or; exact rfl; intro hg))
      rw [show l.length + 1 = (l ++ [n]).length by simp] at hc1 ⊢
      repeat (first | exact endA | refine wkP ?_ | refine opB (fun b => ?_) | refine opA (fun a' c' hc1 hc2 => ?_) | (apply GJ.and; exact rfl; intro hg) | (apply GJ.or; exact rfl; intro hg))
      refine Wk.id ⟨(k, l ++ [n], cs ++ nodeV n.kind n.set a1 n.kids.length c1 n.min n.max, s2, a', c'), ?_, ?_, Sub.auto, Sup.auto⟩
      all_goals try dsimp only
      · refine ⟨RgsOk.snoc hv (i1.le hl3), i2, fun he => ?_, by simp; omega, hin, hnn, hc1, hc2⟩
        have := hmore he
        simp; omega
      · omega
end Go.Proofs.YtinbmhbfcoiefaaDoor
end
section
/- Contracts of regex: Parse. -/
namespace Go.Proofs.YtinbmhbfcoiefaaDoor
open Go Go.E
set_option linter.unusedVariables false
set_option linter.unusedSimpArgs false
set_option maxRecDepth 10000
def faultV (p : Nat × Nat) : List Value := [.int .i64 (p.1 : Int), .int .i64 (p.2 : Int)]
section
variable {ro : Ro} {own r : Chs} {K : Value → Ro → Chs → Prop} {g : Chunk → Chs} {q : Nat} {t : List UInt8}
set_option maxHeartbeats 8000000 in
theorem rparse_ok (hl : t.length ≤ 1000000) (hk : ∀ ro' v, Le ro ro' → RgOk ro' (parseD t).1 v → K (.tuple #[.agg v.toArray, .agg (faultV (parseD t).2).toArray]) ro' own) :
    CallOk Tryd.prog 6 #[str t] ro own K := by
  unfold parseD at hk
  by_cases h512 : 512 < t.length
  · rw [if_pos h512] at hk
    refine CallOk.intro (args := [_]) (rs := [_, _]) T_ok Tryd.func6 Tryd.call6 rfl rfl (by kernel_rfl) rfl rfl ?_
    repeat (first | exact endA | refine wkP ?_ | refine opB (fun b => ?_) | refine opA (fun a' c' hc1 hc2 => ?_) | (apply GJ.and; exact rfl; intro hg) | (apply GJ.or; exact rfl; intro hg))
    exact Wk.outS Sup.auto (.refl _) (hk ro _ (.refl _) (RgOk.leaf zeroS_in))
  · rw [if_neg h512] at hk
    have hi : Inv t ⟨0, 0, 0, 0⟩ := ⟨fun _ => Nat.zero_le _, Nat.zero_le _, Nat.zero_le _, .inl rfl⟩
    refine CallOk.intro (args := [_]) (rs := [_, _]) T_ok Tryd.func6 Tryd.call6 rfl rfl (by kernel_rfl) rfl rfl ?_
    repeat (first | exact endA | refine wkP ?_ | refine opB (fun b => ?_) | refine opA (fun a' c' hc1 hc2 => ?_) | (apply GJ.and; exact rfl; intro hg) | (apply GJ.or; exact rfl; intro hg))
    rename_i b2 b3
    obtain ⟨q, hq⟩ : ∃ z : Nat, z = b := ⟨_, rfl⟩
    subst hq
    have e1 : (.blk q 56 (Value.agg #[str t, .int .i64 0, .int .i64 0, .int .i64 0, .int .i64 0]).cells.toList : Chunk) = .blk q 56 (rsV t ⟨0, 0, 0, 0⟩) := rfl
    rw [e1]
    refine altC (t := t) (by omega) 33 (Nat.le_refl _) (s := ⟨0, 0, 0, 0⟩) inferInstance hi rfl (by decide) (fun ro1 v hl1 hv => ?_)
    have hia : Inv t (altD t 33 ⟨0, 0, 0, 0⟩).2 := Inv.alt hi
    generalize (altD t 33 ⟨0, 0, 0, 0⟩).1 = n at hk hv
    generalize (altD t 33 ⟨0, 0, 0, 0⟩).2 = s at hk hia ⊢
    obtain ⟨a1, c1, hvc⟩ := hv.cells
    subst hvc
    repeat (first | exact endA | refine wkP ?_ | refine opB (fun b => ?_) | refine opA (fun a' c' hc1 hc2 => ?_) | (apply GJ.and; exact rfl; intro hg) | (apply GJ.or; exact rfl; intro hg))
    refine rok_ok (t := t) (s := s) ?_
    have hbad : ∀ s2 : RS, s2.e ≠ 0 → endS t s = s2 → K (.tuple #[.agg (nodeV 0 zeroS none 0 0 0 0).toArray, .agg #[.int .i64 (s2.e : Int), .int .i64 (s2.f : Int)]]) ro1 own := fun s2 h2 h3 => by
      rw [h3, if_neg h2] at hk
      exact hk ro1 _ hl1 (RgOk.leaf zeroS_in)
    by_cases he : s.e = 0
    · rw [decide_eq_true (show (s.e : Int) = 0 by omega)]
      have hp := hia.p0 he
      by_cases hlt : s.p < t.length
      · have hE : endS t s = s.wrong 5 s.p := by unfold endS; rw [if_pos ⟨he, hlt⟩]
        have hb2 := hbad _ (wrong_ne (by decide)) hE
        have hne := wrong_ne (s := s) (e := 5) (f := s.p) (by decide)
        repeat (first | exact endA | refine wkP ?_ | refine opB (fun b => ?_) | refine opA (fun a' c' hc1 hc2 => ?_) | (apply GJ.and; exact rfl; intro hg) | (apply GJ.or; exact rfl; intro hg))
        refine rwrong_ok (t := t) (s := s) 5 s.p rfl rfl ?_
        generalize s.wrong 5 s.p = s2 at hb2 hne ⊢
        repeat (first | exact endA | refine wkP ?_ | refine opB (fun b => ?_) | refine opA (fun a' c' hc1 hc2 => ?_) | (apply GJ.and; exact rfl; intro hg) | (apply GJ.or; exact rfl; intro hg))
        refine rok_ok (t := t) (s := s2) ?_
        rw [decide_eq_false (show ¬ (s2.e : Int) = 0 by omega)]
        repeat (first | exact endA | refine wkP ?_ | refine opB (fun b => ?_) | refine opA (fun a' c' hc1 hc2 => ?_) | (apply GJ.and; exact rfl; intro hg) | (apply GJ.or; exact rfl; intro hg))
        exact Wk.outS Sup.auto (.refl _) hb2
      · have hE : endS t s = s := by unfold endS; rw [if_neg (fun x => hlt x.2)]
        rw [hE, if_pos he] at hk
        repeat (first | exact endA | refine wkP ?_ | refine opB (fun b => ?_) | refine opA (fun a' c' hc1 hc2 => ?_) | (apply GJ.and; exact rfl; intro hg) | (apply GJ.or; exact rfl; intro hg))
        refine rok_ok (t := t) (s := s) ?_
        rw [decide_eq_true (show (s.e : Int) = 0 by omega)]
        repeat (first | exact endA | refine wkP ?_ | refine opB (fun b => ?_) | refine opA (fun a' c' hc1 hc2 => ?_) | (apply GJ.and; exact rfl; intro hg) | (apply GJ.or; exact rfl; intro hg))
        exact Wk.outS Sup.auto (.refl _) (hk ro1 _ hl1 hv)
    · have hE : endS t s = s := end_keep he
      have hb2 := hbad _ he hE
      rw [decide_eq_false (show ¬ (s.e : Int) = 0 by omega)]
      repeat (first | exact endA | refine wkP ?_ | refine opB (fun b => ?_) | refine opA (fun a' c' hc1 hc2 => ?_) | (apply GJ.and; exact rfl; intro hg) | (apply GJ.or; exact rfl; intro hg))
      refine rok_ok (t := t) (s := s) ?_
      rw [decide_eq_false (show ¬ (s.e : Int) = 0 by omega)]
      repeat (first | exact endA | refine wkP ?_ | refine opB (fun b => ?_) | refine opA (fun a' c' hc1 hc2 => ?_) | (apply GJ.and; exact rfl; intro hg) | (apply GJ.or; exact rfl; intro hg))
      exact Wk.outS Sup.auto (.refl _) hb2
end
end Go.Proofs.YtinbmhbfcoiefaaDoor
end
section
/- Contracts of regex: Check. -/
namespace Go.Proofs.YtinbmhbfcoiefaaDoor
open Go Go.E
set_option linter.unusedVariables false
set_option linter.unusedSimpArgs false
set_option maxRecDepth 10000
mutual
theorem check_left : ∀ (n : RgD) (M : Int), (checkD n M).1 = 0 → 0 ≤ (checkD n M).2 ∧ (checkD n M).2 ≤ M - 1
  | .mk k s l a b, M, h => by
    rw [checkD] at h ⊢
    split at h
    · cases h
    · rename_i h1
      rw [if_neg h1]
      split at h
      · rename_i h2; exact absurd h h2
      · rename_i h2
        rw [if_neg h2]
        split at h
        · rename_i h3; rw [if_pos h3]; dsimp only; omega
        · rename_i h3
          rw [if_neg h3]
          have := checkK_left l (M - 1) (by omega) h
          omega
theorem checkK_left : ∀ (l : List RgD) (M : Int), 0 ≤ M → (checkK l M).1 = 0 → 0 ≤ (checkK l M).2 ∧ (checkK l M).2 ≤ M
  | [], M, h0, h => by rw [checkK]; exact ⟨h0, Int.le_refl _⟩
  | x :: r, M, h0, h => by
    rw [checkK] at h ⊢
    split at h
    · rename_i h1; exact absurd h h1
    · rename_i h1
      rw [if_neg h1]
      have h2 := check_left x M (Decidable.of_not_not h1)
      have := checkK_left r (checkD x M).2 h2.1 h
      omega
end

structure ChC (n : RgD) : Prop where
  run : ∀ {ro : Ro} {r : Chs} {K : Value → Ro → Chs → Prop} {p : Nat} {v : List Value} {M d : Int}, RgOk ro n v → 0 ≤ M → M ≤ 100000 → 0 ≤ d → d + M ≤ 512 → K (.int .i64 ((checkD n M).1 : Int)) ro (.blk p 3 [.int .i64 (checkD n M).2] :: r) →
    CallOk Tryd.prog 31 #[.agg v.toArray, .int .i64 d, ptr' p] ro (.blk p 3 [.int .i64 M] :: r) K
set_option maxHeartbeats 16000000 in
theorem chC : ∀ n, ChC n := RgD.ind fun k z l x y ih => ⟨fun {ro r K p v M d} hv hM hM2 hd hdm hk => by
  rw [RgOk] at hv
  obtain ⟨ad, cp, cs, rfl, hs, hrs, hks⟩ := hv
  have hle := hrs.le
  have hmx := hrs.max
  unfold maxLen at hmx
  rw [checkD] at hk
  by_cases h0 : M - 1 < 0
  · rw [if_pos h0] at hk
    refine CallOk.intro (args := [_, _, _]) (rs := [_]) T_ok Tryd.func31 Tryd.call31 rfl rfl (by kernel_rfl) rfl rfl ?_
    repeat (first | exact endA | refine wkP ?_ | refine opB (fun b => ?_) | refine opA (fun a' c' hc1 hc2 => ?_) | (apply GJ.and; exact rfl; intro hg) | (apply GJ.or; exact rfl; intro hg))
    exact Wk.outS Sup.auto (.refl _) hk
  rw [if_neg h0] at hk
  have hformD : formD (.mk k z l x y) = (if k = 1 ∨ k = 2 then (if l ≠ [] then 5 else if k = 2 ∧ z = zeroS then 160 else 0) else if k = 3 ∨ k = 4 then (if l.length < 2 then 5 else 0)
    else if k = 5 then (if l.length ≠ 1 then 5 else if x < 0 ∨ 256 < x ∨ 256 < y ∨ (0 ≤ y ∧ y < x) then 1 else 0) else 5) := rfl
  have hbad : ∀ e : Nat, formD (.mk k z l x y) = e → e ≠ 0 → K (.int .i64 (e : Int)) ro (.blk p 3 [.int .i64 (M - 1)] :: r) := fun e h1 h2 => by
    rw [h1, if_pos h2] at hk; exact hk
  have hgood : formD (.mk k z l x y) = 0 → K (.int .i64 ((checkK l (M - 1)).1 : Int)) ro (.blk p 3 [.int .i64 (checkK l (M - 1)).2] :: r) := fun h1 => by
    rw [h1, if_neg (by decide)] at hk
    by_cases h12 : k = 1 ∨ k = 2
    · rw [if_pos h12] at hk
      have : l = [] := by
        by_cases hl : l = []
        · exact hl
        · rw [hformD, if_pos h12, if_pos hl] at h1; cases h1
      subst this
      rw [checkK]; exact hk
    · rw [if_neg h12] at hk; exact hk
  clear hk
  have hle0 : l ≠ [] ↔ 0 < l.length := List.length_pos_iff.symm
  by_cases h1 : k = 1
  · subst h1
    rw [if_pos (.inl rfl)] at hformD
    by_cases hl0 : l ≠ []
    · rw [if_pos hl0] at hformD
      have hk := hbad _ hformD (by decide)
      have := hle0.1 hl0
      refine CallOk.intro (args := [_, _, _]) (rs := [_]) T_ok Tryd.func31 Tryd.call31 rfl rfl (by kernel_rfl) rfl rfl ?_
      repeat (first | exact endA | refine wkP ?_ | refine opB (fun b => ?_) | refine opA (fun a' c' hc1 hc2 => ?_) | (apply GJ.and; exact rfl; intro hg) | (apply GJ.or; exact rfl; intro hg))
      exact Wk.outS Sup.auto (.refl _) hk
    · rw [if_neg hl0, if_neg (fun x => absurd x.1 (by decide))] at hformD
      have hk := hgood hformD
      have hl0 : ¬ 0 < l.length := fun h => hl0 (hle0.2 h)
      refine CallOk.intro (args := [_, _, _]) (rs := [_]) T_ok Tryd.func31 Tryd.call31 rfl rfl (by kernel_rfl) rfl rfl ?_
      repeat (first | exact endA | refine wkP ?_ | refine opB (fun b => ?_) | refine opA (fun a' c' hc1 hc2 => ?_) | (apply GJ.and; exact rfl; intro hg) | (apply GJ.or; exact rfl; intro hg))
      refine LoopOk.at (ι := Nat × Int) Keep.auto (fun (i, Mi) => [(75, .int .i64 (i : Int))]) (fun (i, Mi) => .blk p 3 [.int .i64 Mi] :: r) (fun (i, Mi) => i ≤ l.length ∧ checkK l (M - 1) = checkK (l.drop i) Mi) (fun (i, Mi) => l.length - i) (0, M - 1) ?_ Sub.auto Sup.auto ?_
      · exact ⟨Nat.zero_le _, by simp⟩
      rintro ⟨i, Mi⟩ ⟨i1, i4⟩
      dsimp only [List.cons_append, List.nil_append] at i1 i4 ⊢
      obtain rfl : i = l.length := by omega
      rw [List.drop_length, checkK] at i4
      rw [i4] at hk
      repeat (first | exact endA | refine wkP ?_ | refine opB (fun b => ?_) | refine opA (fun a' c' hc1 hc2 => ?_) | (apply GJ.and; exact rfl; intro hg) | (apply GJ.or; exact rfl; intro hg))
      exact Wk.outS Sup.auto (.refl _) hk
  by_cases h2 : k = 2
  · subst h2
    rw [if_pos (.inr rfl)] at hformD
    by_cases hl0 : l ≠ []
    · rw [if_pos hl0] at hformD
      have hk := hbad _ hformD (by decide)
      have := hle0.1 hl0
      refine CallOk.intro (args := [_, _, _]) (rs := [_]) T_ok Tryd.func31 Tryd.call31 rfl rfl (by kernel_rfl) rfl rfl ?_
      repeat (first | exact endA | refine wkP ?_ | refine opB (fun b => ?_) | refine opA (fun a' c' hc1 hc2 => ?_) | (apply GJ.and; exact rfl; intro hg) | (apply GJ.or; exact rfl; intro hg))
      exact Wk.outS Sup.auto (.refl _) hk
    · rw [if_neg hl0] at hformD
      have hl0' : ¬ 0 < l.length := fun h => hl0 (hle0.2 h)
      by_cases hz : z = zeroS
      · rw [if_pos ⟨rfl, hz⟩] at hformD
        have hk := hbad _ hformD (by decide)
        refine CallOk.intro (args := [_, _, _]) (rs := [_]) T_ok Tryd.func31 Tryd.call31 rfl rfl (by kernel_rfl) rfl rfl ?_
        repeat (first | exact endA | refine wkP ?_ | refine opB (fun b => ?_) | refine opA (fun a' c' hc1 hc2 => ?_) | (apply GJ.and; exact rfl; intro hg) | (apply GJ.or; exact rfl; intro hg))
        refine check_ok ?_
        rw [if_pos (show z = ⟨0, 0, 0, 0⟩ from hz)]
        repeat (first | exact endA | refine wkP ?_ | refine opB (fun b => ?_) | refine opA (fun a' c' hc1 hc2 => ?_) | (apply GJ.and; exact rfl; intro hg) | (apply GJ.or; exact rfl; intro hg))
        exact Wk.outS Sup.auto (.refl _) hk
      · rw [if_neg (fun x => hz x.2)] at hformD
        have hk := hgood hformD
        have hl0 := Decidable.of_not_not hl0
        rw [hl0, checkK] at hk
        refine CallOk.intro (args := [_, _, _]) (rs := [_]) T_ok Tryd.func31 Tryd.call31 rfl rfl (by kernel_rfl) rfl rfl ?_
        repeat (first | exact endA | refine wkP ?_ | refine opB (fun b => ?_) | refine opA (fun a' c' hc1 hc2 => ?_) | (apply GJ.and; exact rfl; intro hg) | (apply GJ.or; exact rfl; intro hg))
        refine check_ok ?_
        rw [if_neg (show ¬ z = ⟨0, 0, 0, 0⟩ from hz)]
        repeat (first | exact endA | refine wkP ?_ | refine opB (fun b => ?_) | refine opA (fun a' c' hc1 hc2 => ?_) | (apply GJ.and; exact rfl; intro hg) | (apply GJ.or; exact rfl; intro hg))
        exact Wk.outS Sup.auto (.refl _) hk
  rw [if_neg (by omega)] at hformD
  by_cases h34 : k = 3 ∨ k = 4
  · rw [if_pos h34] at hformD
    by_cases hl2 : l.length < 2
    · rw [if_pos hl2] at hformD
      have hk := hbad _ hformD (by decide)
      rcases h34 with rfl | rfl
      all_goals
        refine CallOk.intro (args := [_, _, _]) (rs := [_]) T_ok Tryd.func31 Tryd.call31 rfl rfl (by kernel_rfl) rfl rfl ?_
        repeat (first | exact endA | refine wkP ?_ | refine opB (fun b => ?_) | refine opA (fun a' c' hc1 hc2 => ?_) | (apply GJ.and; exact rfl; intro hg) | (apply GJ.or; exact rfl; intro hg))
        exact Wk.outS Sup.auto (.refl _) hk
    · rw [if_neg hl2] at hformD
      have hk := hgood hformD
      rcases h34 with rfl | rfl
      all_goals
        refine CallOk.intro (args := [_, _, _]) (rs := [_]) T_ok Tryd.func31 Tryd.call31 rfl rfl (by kernel_rfl) rfl rfl ?_
        repeat (first | exact endA | refine wkP ?_ | refine opB (fun b => ?_) | refine opA (fun a' c' hc1 hc2 => ?_) | (apply GJ.and; exact rfl; intro hg) | (apply GJ.or; exact rfl; intro hg))
        refine LoopOk.at (ι := Nat × Int) Keep.auto (fun (i, Mi) => [(75, .int .i64 (i : Int))]) (fun (i, Mi) => .blk p 3 [.int .i64 Mi] :: r) (fun (i, Mi) => i ≤ l.length ∧ 0 ≤ Mi ∧ Mi ≤ M - 1 ∧ checkK l (M - 1) = checkK (l.drop i) Mi) (fun (i, Mi) => l.length - i) (0, M - 1) ?_ Sub.auto Sup.auto ?_
        · exact ⟨Nat.zero_le _, by omega, Int.le_refl _, by simp⟩
        rintro ⟨i, Mi⟩ ⟨i1, i2, i3, i4⟩
        dsimp only [List.cons_append, List.nil_append] at i1 i2 i3 i4 ⊢
        by_cases hi : i < l.length
        · obtain ⟨kd, hkd⟩ : ∃ kd, l[i]? = some kd := ⟨_, List.getElem?_eq_getElem hi⟩
          have hvv := hks.get hkd
          obtain ⟨ak, ck, hvk⟩ := hvv.cells
          rw [hvk] at hvv
          have hdr : l.drop i = kd :: l.drop (i + 1) := by
            rw [List.drop_eq_getElem_cons hi]
            congr 1
            rw [List.getElem?_eq_getElem hi] at hkd
            exact Option.some.inj hkd
          rw [hdr, checkK] at i4
          have hleft := check_left kd Mi
          repeat (first | exact endA | refine wkP ?_ | refine opB (fun b => ?_) | refine opA (fun a' c' hc1 hc2 => ?_) | (apply GJ.and; exact rfl; intro hg) | (apply GJ.or; exact rfl; intro hg))
          rw [Int.toNat_natCast]
          refine OpOk.loadRow rfl rfl (LdN.at hrs hvk) rfl ?_
          repeat (first | exact endA | refine wkP ?_ | refine opB (fun b => ?_) | refine opA (fun a' c' hc1 hc2 => ?_) | (apply GJ.and; exact rfl; intro hg) | (apply GJ.or; exact rfl; intro hg))
          refine CallOk.sup (own0 := .blk p 3 [.int .i64 Mi] :: r) Sup.auto ?_
          refine (ih kd (List.mem_of_getElem? hkd)).run hvv i2 (by omega) (by omega) (by omega) ?_
          generalize checkD kd Mi = R at i4 hleft ⊢
          obtain ⟨R1, R2⟩ := R
          dsimp only at i4 hleft ⊢
          by_cases hz : R1 = 0
          · rw [if_neg (by omega)] at i4
            obtain ⟨h5, h6⟩ := hleft hz
            subst hz
            repeat (first | exact endA | refine wkP ?_ | refine opB (fun b => ?_) | refine opA (fun a' c' hc1 hc2 => ?_) | (apply GJ.and; exact rfl; intro hg) | (apply GJ.or; exact rfl; intro hg))
            refine Wk.id ⟨(i + 1, R2), ⟨rfl, ?_⟩, ?_, Sub.auto, Sup.auto⟩
            all_goals try dsimp only
            · exact ⟨by omega, h5, by omega, i4⟩
            · omega
          · rw [if_pos hz] at i4
            rw [i4] at hk
            repeat (first | exact endA | refine wkP ?_ | refine opB (fun b => ?_) | refine opA (fun a' c' hc1 hc2 => ?_) | (apply GJ.and; exact rfl; intro hg) | (apply GJ.or; exact rfl; intro hg))
            exact Wk.outS Sup.auto (.refl _) hk
        · obtain rfl : i = l.length := by omega
          rw [List.drop_length, checkK] at i4
          rw [i4] at hk
          repeat (first | exact endA | refine wkP ?_ | refine opB (fun b => ?_) | refine opA (fun a' c' hc1 hc2 => ?_) | (apply GJ.and; exact rfl; intro hg) | (apply GJ.or; exact rfl; intro hg))
          exact Wk.outS Sup.auto (.refl _) hk
  rw [if_neg h34] at hformD
  by_cases h5 : k = 5
  · subst h5
    rw [if_pos rfl] at hformD
    by_cases hl1 : l.length ≠ 1
    · rw [if_pos hl1] at hformD
      have hk := hbad _ hformD (by decide)
      refine CallOk.intro (args := [_, _, _]) (rs := [_]) T_ok Tryd.func31 Tryd.call31 rfl rfl (by kernel_rfl) rfl rfl ?_
      repeat (first | exact endA | refine wkP ?_ | refine opB (fun b => ?_) | refine opA (fun a' c' hc1 hc2 => ?_) | (apply GJ.and; exact rfl; intro hg) | (apply GJ.or; exact rfl; intro hg))
      exact Wk.outS Sup.auto (.refl _) hk
    · rw [if_neg hl1] at hformD
      by_cases hb : x < 0 ∨ 256 < x ∨ 256 < y ∨ (0 ≤ y ∧ y < x)
      · rw [if_pos hb] at hformD
        have hk := hbad _ hformD (by decide)
        rcases hb with hb | hb | hb | hb
        all_goals
          refine CallOk.intro (args := [_, _, _]) (rs := [_]) T_ok Tryd.func31 Tryd.call31 rfl rfl (by kernel_rfl) rfl rfl ?_
          repeat (first | exact endA | refine wkP ?_ | refine opB (fun b => ?_) | refine opA (fun a' c' hc1 hc2 => ?_) | (apply GJ.and; exact rfl; intro hg) | (apply GJ.or; exact rfl; intro hg))
          exact Wk.outS Sup.auto (.refl _) hk
      · rw [if_neg hb] at hformD
        have hk := hgood hformD
        refine CallOk.intro (args := [_, _, _]) (rs := [_]) T_ok Tryd.func31 Tryd.call31 rfl rfl (by kernel_rfl) rfl rfl ?_
        repeat (first | exact endA | refine wkP ?_ | refine opB (fun b => ?_) | refine opA (fun a' c' hc1 hc2 => ?_) | (apply GJ.and; exact rfl; intro hg) | (apply GJ.or; exact rfl; intro hg))
        refine LoopOk.at (ι := Nat × Int) Keep.auto (fun (i, Mi) => [(75, .int .i64 (i : Int))]) (fun (i, Mi) => .blk p 3 [.int .i64 Mi] :: r) (fun (i, Mi) => i ≤ l.length ∧ 0 ≤ Mi ∧ Mi ≤ M - 1 ∧ checkK l (M - 1) = checkK (l.drop i) Mi) (fun (i, Mi) => l.length - i) (0, M - 1) ?_ Sub.auto Sup.auto ?_
        · exact ⟨Nat.zero_le _, by omega, Int.le_refl _, by simp⟩
        rintro ⟨i, Mi⟩ ⟨i1, i2, i3, i4⟩
        dsimp only [List.cons_append, List.nil_append] at i1 i2 i3 i4 ⊢
        by_cases hi : i < l.length
        · obtain ⟨kd, hkd⟩ : ∃ kd, l[i]? = some kd := ⟨_, List.getElem?_eq_getElem hi⟩
          have hvv := hks.get hkd
          obtain ⟨ak, ck, hvk⟩ := hvv.cells
          rw [hvk] at hvv
          have hdr : l.drop i = kd :: l.drop (i + 1) := by
            rw [List.drop_eq_getElem_cons hi]
            congr 1
            rw [List.getElem?_eq_getElem hi] at hkd
            exact Option.some.inj hkd
          rw [hdr, checkK] at i4
          have hleft := check_left kd Mi
          repeat (first | exact endA | refine wkP ?_ | refine opB (fun b => ?_) | refine opA (fun a' c' hc1 hc2 => ?_) | (apply GJ.and; exact rfl; intro hg) | (apply GJ.or; exact rfl; intro hg))
          rw [Int.toNat_natCast]
          refine OpOk.loadRow rfl rfl (LdN.at hrs hvk) rfl ?_
          repeat (first | exact endA | refine wkP ?_ | refine opB (fun b => ?_) | refine opA (fun a' c' hc1 hc2 => ?_) | (apply GJ.and; exact rfl; intro hg) | (apply GJ.or; exact rfl; intro hg))
          refine CallOk.sup (own0 := .blk p 3 [.int .i64 Mi] :: r) Sup.auto ?_
          refine (ih kd (List.mem_of_getElem? hkd)).run hvv i2 (by omega) (by omega) (by omega) ?_
          generalize checkD kd Mi = R at i4 hleft ⊢
          obtain ⟨R1, R2⟩ := R
          dsimp only at i4 hleft ⊢
          by_cases hz : R1 = 0
          · rw [if_neg (by omega)] at i4
            obtain ⟨h5, h6⟩ := hleft hz
            subst hz
            repeat (first | exact endA | refine wkP ?_ | refine opB (fun b => ?_) | refine opA (fun a' c' hc1 hc2 => ?_) | (apply GJ.and; exact rfl; intro hg) | (apply GJ.or; exact rfl; intro hg))
            refine Wk.id ⟨(i + 1, R2), ⟨rfl, ?_⟩, ?_, Sub.auto, Sup.auto⟩
            all_goals try dsimp only
            · exact ⟨by omega, h5, by omega, i4⟩
            · omega
          · rw [if_pos hz] at i4
            rw [i4] at hk
            repeat (first | exact endA | refine wkP ?_ | refine opB (fun b => ?_) | refine opA (fun a' c' hc1 hc2 => ?_) | (apply GJ.and; exact rfl; intro hg) | (apply GJ.or; exact rfl; intro hg))
            exact Wk.outS Sup.auto (.refl _) hk
        · obtain rfl : i = l.length := by omega
          rw [List.drop_length, checkK] at i4
          rw [i4] at hk
          repeat (first | exact endA | refine wkP ?_ | refine opB (fun b => ?_) | refine opA (fun a' c' hc1 hc2 => ?_) | (apply GJ.and; exact rfl; intro hg) | (apply GJ.or; exact rfl; intro hg))
          exact Wk.outS Sup.auto (.refl _) hk
  · rw [if_neg h5] at hformD
    have hk := hbad _ hformD (by decide)
    refine CallOk.intro (args := [_, _, _]) (rs := [_]) T_ok Tryd.func31 Tryd.call31 rfl rfl (by kernel_rfl) rfl rfl ?_
    repeat (first | exact endA | refine wkP ?_ | refine opB (fun b => ?_) | refine opA (fun a' c' hc1 hc2 => ?_) | (apply GJ.and; exact rfl; intro hg) | (apply GJ.or; exact rfl; intro hg))
    exact Wk.outS Sup.auto (.refl _) hk⟩
end Go.Proofs.YtinbmhbfcoiefaaDoor
end
section
/- Contracts of regex: Check (without Text). -/
namespace Go.Proofs.YtinbmhbfcoiefaaDoor
open Go Go.E
set_option linter.unusedVariables false
set_option linter.unusedSimpArgs false
set_option maxRecDepth 10000
section
variable {ro : Ro} {own r : Chs} {K : Value → Ro → Chs → Prop} {g : Chunk → Chs}
theorem rcheck_ok {n : RgD} {v : List Value} (hv : RgOk ro n v) (hk : K (.int .i64 ((checkD n 512).1 : Int)) ro own) : CallOk Tryd.prog 12 #[.agg v.toArray] ro own K := by
  obtain ⟨a1, c1, hvc⟩ := hv.cells
  rw [hvc] at hv ⊢
  refine CallOk.intro (args := [_]) (rs := [_]) T_ok Tryd.func12 Tryd.call12 rfl rfl (by kernel_rfl) rfl rfl ?_
  repeat (first | exact endA | refine wkP ?_ | refine opB (fun b => ?_) | refine opA (fun a' c' hc1 hc2 => ?_) | (apply GJ.and; exact rfl; intro hg) | (apply GJ.or; exact rfl; intro hg))
  refine CallOk.sup (own0 := .blk b 3 [.int .i64 512] :: own) Sup.auto ?_
  refine (chC n).run hv (by decide) (by decide) (by decide) (by decide) ?_
  repeat (first | exact endA | refine wkP ?_ | refine opB (fun b => ?_) | refine opA (fun a' c' hc1 hc2 => ?_) | (apply GJ.and; exact rfl; intro hg) | (apply GJ.or; exact rfl; intro hg))
  exact Wk.outS Sup.auto (.refl _) hk
end
end Go.Proofs.YtinbmhbfcoiefaaDoor
end
section
/- Contracts of nfa: Make. -/
namespace Go.E
open Go
theorem Sup.app {l l' : Chs} : ∀ (G : Chs), Sup l l' → Sup (G ++ l) l'
  | [], h => h
  | c :: G, h => Sup.drop _ (Sup.app G h)
theorem Wk.freezeL {k : Kt} {env : Env} : ∀ {l : Chs} {own rest : Chs} {ro : Ro}, own.Perm (l ++ rest) → (∀ ro', Le ro ro' → (∀ c ∈ l, c.holds ro') → Wk k env ro' rest) → Wk k env ro own
  | [], ow, rest, ro, hp, h => .perm hp (h ro (Le.refl _) (by simp))
  | c :: l, ow, rest, ro, hp, h => by
    refine .perm hp (.freeze (c := c) (own' := l ++ rest) (.hit _ _) (fun r1 h1 h2 => ?_))
    refine Wk.freezeL (.refl _) (fun r2 h3 h4 => h r2 (h1.trans h3) (fun d hd => ?_))
    simp at hd
    rcases hd with rfl | hd
    · exact h2.le h3
    · exact h4 d hd
end Go.E
namespace Go.Proofs.YtinbmhbfcoiefaaDoor
open Go Go.E
set_option linter.unusedVariables false
set_option linter.unusedSimpArgs false
set_option maxRecDepth 10000
/-- How an automaton lies in memory. -/
structure RowsOk (ro : Ro) (R : RowsN) (hs : List Value) : Prop where
  len : hs.length = R.length
  row : ∀ (i : Nat) (row : List EdgeD), R[i]? = some row → ∃ (ad : Option Addr) (cp : Nat), hs[i]? = some (Value.slice ad row.length cp) ∧ Rs ro ad row.length cp 6 (edgesV row)
def AutoOk (ro : Ro) (a : NfaD) (v : List Value) : Prop :=
  ∃ (ad : Option Addr) (cp : Nat) (hs : List Value), v = [Value.slice ad a.rows.length cp, .int .i64 a.last] ∧ Rs ro ad a.rows.length cp 1 hs ∧ RowsOk ro a.rows hs
theorem AutoOk.nil (ro : Ro) : AutoOk ro nilN [Value.slice none 0 0, .int .i64 0] := ⟨none, 0, [], rfl, Rs.nil _ _, rfl, fun i row h => by simp [nilN] at h⟩
theorem RowsOk.ofM {ro : Ro} {R : List RowM} (h : ∀ c ∈ R.map rowC, c.holds ro) : RowsOk ro (rowsOf R) (R.map hdrV) :=
  ⟨by simp [rowsOf], fun i row hr => by
    unfold rowsOf at hr
    rw [List.getElem?_map] at hr
    cases hx : R[i]? with
    | none => rw [hx] at hr; cases hr
    | some x =>
      rw [hx] at hr
      cases hr
      refine ⟨x.1.1, x.1.2, by rw [List.getElem?_map, hx]; rfl, Rs.last (h _ (List.mem_map.2 ⟨x, List.mem_of_getElem? hx, rfl⟩))⟩⟩
theorem mk_rows (q : Nat) (a : Option Addr) (c : Nat) (e : Int) (full : Bool) (R : List RowM) (r : Chs) : (mkC q a c e full R r).Perm ((.sl a R.length c 84 1 (R.map hdrV) :: R.map rowC) ++ (.blk q 48 [.slice a R.length c, .int .i64 e, .bool full] :: r)) := by
  unfold mkC
  refine (List.Perm.swap _ _ _).trans ?_
  rw [List.cons_append]
  refine List.Perm.cons _ ?_
  exact List.perm_middle.symm
mutual
theorem check_zero : ∀ (n : RgD) (M : Int), (checkD n M).1 = 0 → wrongD n = 0 ∧ (sizeD n : Int) ≤ M ∧ (checkD n M).2 = M - sizeD n
  | .mk k s l a b, M, h => by
    rw [checkD] at h ⊢
    split at h
    · cases h
    rename_i h0
    rw [if_neg h0]
    split at h
    · rename_i h1; exact absurd h h1
    rename_i h1
    rw [if_neg h1]
    have h1 : formD (.mk k s l a b) = 0 := by simpa using h1
    rw [wrongD, if_neg (by rw [h1]; decide), sizeD]
    split at h
    · rename_i h2
      rw [if_pos h2]
      have hl : l = [] := by
        cases form_cases h1 with
        | none => rfl
        | one => rfl
        | cat => exact absurd h2 (by decide)
        | alt => exact absurd h2 (by decide)
        | rep => exact absurd h2 (by decide)
      subst hl
      rw [wrongK, sizeK]
      exact ⟨rfl, by omega, by dsimp only; omega⟩
    · rename_i h2
      rw [if_neg h2]
      obtain ⟨h3, h4, h5⟩ := checkK_zero l (M - 1) (by omega) h
      exact ⟨h3, by omega, by omega⟩
theorem checkK_zero : ∀ (l : List RgD) (M : Int), 0 ≤ M → (checkK l M).1 = 0 → wrongK l = 0 ∧ (sizeK l : Int) ≤ M ∧ (checkK l M).2 = M - sizeK l
  | [], M, hM, _ => by rw [checkK, wrongK, sizeK]; exact ⟨rfl, by omega, by simp⟩
  | x :: r, M, hM, h => by
    rw [checkK] at h ⊢
    split at h
    · rename_i h1; exact absurd h h1
    rename_i h1
    rw [if_neg h1]
    obtain ⟨h3, h4, h5⟩ := check_zero x M (by simpa using h1)
    obtain ⟨h6, h7, h8⟩ := checkK_zero r _ (by omega) h
    rw [wrongK, if_neg (by rw [h3]; decide), sizeK]
    exact ⟨h6, by omega, by omega⟩
end

section
variable {ro : Ro} {own r : Chs} {K : Value → Ro → Chs → Prop} {g : Chunk → Chs}
theorem bud_st0 {n : RgD} (h : (checkD n 512).1 = 0) : budN st0 + 4 * sizeD n ≤ 900000 := by
  have := (check_zero n 512 h).2.1
  have h0 : budN st0 = 4 * 4095 := by decide
  omega
set_option maxHeartbeats 4000000 in
theorem nmake_ok {n : RgD} {v : List Value} (hv : RgOk ro n v) 
    (hk : ∀ ro' v', Le ro ro' → AutoOk ro' (makeN n).2 v' → K (.tuple #[.agg v'.toArray, .int .i64 ((makeN n).1 : Int)]) ro' own) :
    CallOk Tryd.prog 4 #[.agg v.toArray] ro own K := by
  obtain ⟨a1, c1, hvc⟩ := hv.cells
  rw [hvc] at hv ⊢
  unfold makeN at hk
  refine CallOk.intro (args := [_]) (rs := [_, _]) T_ok Tryd.func4 Tryd.call4 rfl rfl (by kernel_rfl) rfl rfl ?_
  repeat (first | exact endA | refine wkP ?_ | refine opB (fun b => ?_) | refine opA (fun a' c' hc1 hc2 => ?_) | (apply GJ.and; exact rfl; intro hg) | (apply GJ.or; exact rfl; intro hg))
  obtain ⟨bX, hbX⟩ : ∃ z : Nat, z = b := ⟨_, rfl⟩
  subst hbX
  refine rcheck_ok hv ?_
  by_cases hc : (checkD n 512).1 = 0
  · rw [if_neg (by rw [hc]; decide)] at hk
    rw [hc]
    have hw := (check_zero n 512 hc).1
    have hbs := bud_st0 hc
    have m := made_node n hw 0 st0 st0_ok (by decide)
    have e0 : stateN (stM [] false) = (0, st0) := rfl
    repeat (first | exact endA | refine wkP ?_ | refine opB (fun b => ?_) | refine opA (fun a' c' hc1 hc2 => ?_) | (apply GJ.and; exact rfl; intro hg) | (apply GJ.or; exact rfl; intro hg))
    obtain ⟨bM, hbM⟩ : ∃ z : Nat, z = b := ⟨_, rfl⟩
    subst hbM
    obtain ⟨bN, hbN⟩ : ∃ z : Nat, z = b := ⟨_, rfl⟩
    refine CallOk.sup (own0 := .sl none 0 0 84 1 [] :: .blk bM 48 [.slice none 0 0, .int .i64 0, .bool false] :: .blk bX 25 [.slice none 0 0, .int .i64 0] :: .blk b 33 (nodeV n.kind n.set a1 n.kids.length c1 n.min n.max) :: own) (Sup.nilc (Sup.all _)) ?_
    refine CallOk.perm (List.Perm.swap _ _ _) ?_
    refine nstate_ok (R := []) (full := false) (a := none) (c := 0) (e := 0) (r := .blk bX 25 [.slice none 0 0, .int .i64 0] :: .blk b 33 (nodeV n.kind n.set a1 n.kids.length c1 n.min n.max) :: own) (by decide) (fun a2 c2 R2 h2 => ?_)
    have e1 : stateN ⟨rowsOf [], false⟩ = (0, st0) := rfl
    rw [e1] at h2 ⊢
    have h2 : stM R2 st0.full = st0 := stM_eq h2
    have f2 : st0.full = false := rfl
    rw [f2] at h2
    have l2 : R2.length = st0.rows.length := by rw [← h2, stM_len]
    rw [f2]
    dsimp only
    repeat (first | exact endA | refine wkP ?_ | refine opB (fun b => ?_) | refine opA (fun a' c' hc1 hc2 => ?_) | (apply GJ.and; exact rfl; intro hg) | (apply GJ.or; exact rfl; intro hg))
    refine (nodeC n).run hv hw (by rw [h2]; exact st0_ok) (by rw [l2]; decide) (.inr (by rw [h2]; exact hbs)) (fun a3 c3 R3 h3 => ?_)
    rw [h2] at h3 ⊢
    generalize nodeN n 0 st0 = p at *
    obtain ⟨p1, p2, pf⟩ := p
    dsimp only at *
    cases pf with
    | true =>
      rw [if_pos rfl] at hk
      repeat (first | exact endA | refine wkP ?_ | refine opB (fun b => ?_) | refine opA (fun a' c' hc1 hc2 => ?_) | (apply GJ.and; exact rfl; intro hg) | (apply GJ.or; exact rfl; intro hg))
      exact Wk.outS (Sup.drop _ (Sup.drop _ (Sup.app _ (Sup.drop _ (Sup.drop _ (Sup.all _)))))) (.refl _) (hk ro _ (Le.refl _) (AutoOk.nil _))
    | false =>
      rw [if_neg (by decide)] at hk
      unfold mkC
      repeat (first | exact endA | refine wkP ?_ | refine opB (fun b => ?_) | refine opA (fun a' c' hc1 hc2 => ?_) | (apply GJ.and; exact rfl; intro hg) | (apply GJ.or; exact rfl; intro hg))
      refine Wk.freezeL (mk_rows _ _ _ _ _ _ _) (fun ro2 hl2 hc2 => ?_)
      have hr2 := RowsOk.ofM (R := R3) (fun c hc => hc2 c (List.mem_cons_of_mem _ hc))
      have hs2 := Rs.last (hc2 _ (List.mem_cons_self ..))
      have e3 : R3.length = p2.length := by rw [← h3]; simp [rowsOf]
      rw [h3] at hr2
      rw [e3] at hs2 ⊢
      exact Wk.outS Sup.auto (.refl _) (hk ro2 _ hl2 ⟨_, _, _, rfl, hs2, hr2⟩)
  · rw [if_pos hc] at hk
    repeat (first | exact endA | refine wkP ?_ | refine opB (fun b => ?_) | refine opA (fun a' c' hc1 hc2 => ?_) | (apply GJ.and; exact rfl; intro hg) | (apply GJ.or; exact rfl; intro hg))
    exact Wk.outS Sup.auto (.refl _) (hk ro _ (Le.refl _) (AutoOk.nil _))
end
end Go.Proofs.YtinbmhbfcoiefaaDoor
end
section
/- slices.Sort of ints, off the shelf. -/
namespace Go.Proofs
open Go.Shelf
def Tryd.laysSort_ren : Go.Shelf.Ren := ⟨fun | 189 => 49 | 125 => 55 | 257 => 54 | 128 => 67 | 129 => 68 | 294 => 58 | 295 => 59 | 296 => 60 | 297 => 61 | 298 => 62 | 299 => 63 | 216 => 64 | 300 => 65 | 301 => 66 | 328 => 74 | 329 => 75 | 330 => 76 | 331 => 77 | 332 => 78 | 215 => 79 | 343 => 86 | n => n, fun | 28 => 50 | 3 => 3 | 46 => 93 | 0 => 0 | 51 => 117 | 53 => 29 | 4 => 4 | 183 => 110 | 182 => 109 | 131 => 74 | 5 => 5 | 9 => 9 | 218 => 121 | 222 => 79 | 228 => 133 | 229 => 106 | n => n, fun n => n⟩
theorem Tryd.laysSort : Go.Proofs.Lays.n189 Tryd.prog Tryd.laysSort_ren := {
  mixed := by kernel_rfl
  f125 := Tryd.func55.trans (congrArg some (by kernel_rfl))
  f128 := Tryd.func67.trans (congrArg some (by kernel_rfl))
  f129 := Tryd.func68.trans (congrArg some (by kernel_rfl))
  f189 := Tryd.func49.trans (congrArg some (by kernel_rfl))
  f215 := Tryd.func79.trans (congrArg some (by kernel_rfl))
  f216 := Tryd.func64.trans (congrArg some (by kernel_rfl))
  f257 := Tryd.func54.trans (congrArg some (by kernel_rfl))
  f294 := Tryd.func58.trans (congrArg some (by kernel_rfl))
  f295 := Tryd.func59.trans (congrArg some (by kernel_rfl))
  f296 := Tryd.func60.trans (congrArg some (by kernel_rfl))
  f297 := Tryd.func61.trans (congrArg some (by kernel_rfl))
  f298 := Tryd.func62.trans (congrArg some (by kernel_rfl))
  f299 := Tryd.func63.trans (congrArg some (by kernel_rfl))
  f300 := Tryd.func65.trans (congrArg some (by kernel_rfl))
  f301 := Tryd.func66.trans (congrArg some (by kernel_rfl))
  f328 := Tryd.func74.trans (congrArg some (by kernel_rfl))
  f329 := Tryd.func75.trans (congrArg some (by kernel_rfl))
  f330 := Tryd.func76.trans (congrArg some (by kernel_rfl))
  f331 := Tryd.func77.trans (congrArg some (by kernel_rfl))
  f332 := Tryd.func78.trans (congrArg some (by kernel_rfl))
  f343 := Tryd.func86.trans (congrArg some (by kernel_rfl))
  t0 := Tryd.underlying0
  a0 := Tryd.isAgg0
  z0 := Tryd.sizeOf0
  v0 := Tryd.zeroValue0
  t3 := Tryd.underlying3
  a3 := Tryd.isAgg3
  z3 := Tryd.sizeOf3
  v3 := Tryd.zeroValue3
  t4 := Tryd.underlying4
  a4 := Tryd.isAgg4
  z4 := Tryd.sizeOf4
  v4 := Tryd.zeroValue4
  t5 := Tryd.underlying5
  a5 := Tryd.isAgg5
  z5 := Tryd.sizeOf5
  v5 := Tryd.zeroValue5
  t9 := Tryd.underlying9
  a9 := Tryd.isAgg9
  z9 := Tryd.sizeOf9
  v9 := Tryd.zeroValue9
  t28 := Tryd.underlying50
  a28 := Tryd.isAgg50
  z28 := Tryd.sizeOf50
  v28 := Tryd.zeroValue50
  t46 := Tryd.underlying93
  a46 := Tryd.isAgg93
  z46 := Tryd.sizeOf93
  v46 := Tryd.zeroValue93
  t51 := Tryd.underlying117
  a51 := Tryd.isAgg117
  z51 := Tryd.sizeOf117
  v51 := Tryd.zeroValue117
  t53 := Tryd.underlying29
  a53 := Tryd.isAgg29
  z53 := Tryd.sizeOf29
  v53 := Tryd.zeroValue29
  t131 := Tryd.underlying74
  a131 := Tryd.isAgg74
  z131 := Tryd.sizeOf74
  v131 := Tryd.zeroValue74
  t182 := Tryd.underlying109
  a182 := Tryd.isAgg109
  z182 := Tryd.sizeOf109
  v182 := Tryd.zeroValue109
  t183 := Tryd.underlying110
  a183 := Tryd.isAgg110
  z183 := Tryd.sizeOf110
  v183 := Tryd.zeroValue110
  t218 := Tryd.underlying121
  a218 := Tryd.isAgg121
  z218 := Tryd.sizeOf121
  v218 := Tryd.zeroValue121
  t222 := Tryd.underlying79
  a222 := Tryd.isAgg79
  z222 := Tryd.sizeOf79
  v222 := Tryd.zeroValue79
  t228 := Tryd.underlying133
  a228 := Tryd.isAgg133
  z228 := Tryd.sizeOf133
  v228 := Tryd.zeroValue133
  t229 := Tryd.underlying106
  a229 := Tryd.isAgg106
  z229 := Tryd.sizeOf106
  v229 := Tryd.zeroValue106 }
end Go.Proofs
namespace Go.Proofs.YtinbmhbfcoiefaaDoor
open Go.Shelf Go.RowKit
open Go Go.E
set_option linter.unusedVariables false
theorem map_putCells {f : Int → Value} (l m : List Int) (sp : List Value) (h : m.length = l.length) : Go.Sort.putCells f 0 m.toArray (l.map f ++ sp).toArray = (m.map f ++ sp).toArray := by
  refine Array.ext_getElem? fun k => ?_
  unfold Go.Sort.putCells
  rw [Array.getElem?_mapIdx, List.getElem?_toArray, List.getElem?_toArray]
  by_cases hk : k < m.length
  · rw [List.getElem?_append_left (by simp; omega), List.getElem?_append_left (by simpa using hk)]
    have hk2 : k < l.length := by omega
    simp [hk, hk2]
  · rw [List.getElem?_append_right (by simp; omega), List.getElem?_append_right (by simp; omega)]
    simp only [List.length_map, h]
    cases sp[k - l.length]? with
    | none => rfl
    | some v =>
      simp only [Option.map_some, List.size_toArray]
      rw [if_neg (by omega)]
theorem sortI_ok {ro : Ro} {own : Chs} {K : Value → Ro → Chs → Prop} {a : Option Addr} {c : Nat} {t : TypeId} {l : List Int} (hn : l.length ≤ 1000000000)
    (hk : K (.tuple #[]) ro (.sl a l.length c t 1 ((l.mergeSort fun x y => decide (x ≤ y)).map (Value.int .i64)) :: own)) : CallOk Tryd.prog 49 #[.slice a l.length c] ro (.sl a l.length c t 1 (l.map (Value.int .i64)) :: own) K := by
  have hsl : (l.mergeSort fun x y => decide (x ≤ y)).length = l.length := (List.mergeSort_perm _ _).length_eq
  refine ⟨fun w hs => .inl ⟨Tryd.call49 _ _, ?_⟩⟩
  obtain ⟨hc, _, _⟩ := hs.cons
  obtain ⟨h1, h2, h3, h4⟩ := hc
  rcases h4 with ⟨rfl, h5, _⟩ | ⟨b, sp, rfl, h5, h6⟩
  · obtain rfl := List.eq_nil_of_length_eq_zero h5
    have h := Go.Proofs.Any.slices_Sort_int_none Tryd.laysSort none c w
    rw [show Tryd.laysSort_ren.f 189 = 49 by kernel_rfl] at h
    refine h.mono fun e w' ⟨he, hw⟩ => ?_
    subst hw
    exact ⟨_, he, ⟨rfl, rfl, rfl, rfl⟩, ro, _, Le.refl _, by simpa using hs, hk⟩
  · have hrow : w.heap[b]? = some (.cells (l.map (Value.int .i64) ++ sp).toArray t (0, 0)) := h5
    have hlt : b < w.heap.size := (Array.getElem?_eq_some_iff.1 hrow).1
    have hH : Go.Sort.Holds (Value.int .i64) w b 0 l.toArray := fun j hj => by
      have hj2 : j < l.length := by simpa using hj
      refine ⟨?_, ?_⟩
      · rw [cell_eq]
        refine Row.cell (h := w.heap) (t := t) hrow ?_
        rw [Nat.zero_add, List.getElem?_append_left (by simpa using hj2)]
        simp [hj2]
      · simp [World.frozen?, hrow]
    have h := Go.Proofs.Any.slices_Sort_int Tryd.laysSort b 0 c l w hH hlt (by omega)
    rw [show Tryd.laysSort_ren.f 189 = 49 by kernel_rfl] at h
    refine h.mono fun e w' ⟨he, n, os, hw⟩ => ?_
    have hnew : w'.heap = w.heap.modify b (Go.Sort.onCells (Go.Sort.putCells (Value.int .i64) 0 (l.mergeSort fun x y => decide (x ≤ y)).toArray)) ++ os := by rw [hw]; rfl
    have hsz : (w.heap.modify b (Go.Sort.onCells (Go.Sort.putCells (Value.int .i64) 0 (l.mergeSort fun x y => decide (x ≤ y)).toArray))).size = w.heap.size := by simp
    refine ⟨_, he, by rw [hw]; exact ⟨rfl, rfl, rfl, rfl⟩, ro, _, Le.refl _, ?_, hk⟩
    refine hs.put (fun k hk1 hk2 => ?_) ⟨?_, h2, h3, .inr ⟨b, sp, rfl, ?_, ?_⟩⟩ (fun k hk => .inl hk) (by simp [Chunk.fp])
    · simp only [Chunk.fp, List.mem_singleton] at hk2
      rw [hnew, Array.getElem?_append_left (by rw [hsz]; exact hk1), Array.getElem?_modify, if_neg (Ne.symm hk2)]
    · simp [hsl]
    · show w'.heap[b]? = _
      rw [hnew, Array.getElem?_append_left (by rw [hsz]; exact hlt), Array.getElem?_modify, if_pos rfl, hrow]
      simp only [Option.map_some, Go.Sort.onCells]
      rw [map_putCells l _ sp hsl]
    · simp only [List.length_map] at h6 ⊢; rw [hsl]; exact h6
end Go.Proofs.YtinbmhbfcoiefaaDoor
end
