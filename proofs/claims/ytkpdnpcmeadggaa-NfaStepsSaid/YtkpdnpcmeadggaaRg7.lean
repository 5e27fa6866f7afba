/- Contracts of regex: repeat. -/
import Derived.Test.YtkpdnpcmeadggaaRg6
namespace Go.Proofs.Ytkpdnpcmeadggaa
open Go Go.E
set_option linter.unusedVariables false
set_option linter.unusedSimpArgs false
set_option maxRecDepth 10000
theorem rep_none {t : List UInt8} {k : Nat} {n : RgD} {s : RS} (h1 : ¬ peekD t s = 42) (h2 : ¬ peekD t s = 43) (h3 : ¬ peekD t s = 63) (h4 : ¬ peekD t s = 123) : repL t k n s = (n, s) := by
  cases k with
  | zero => rfl
  | succ k => rw [repL, if_neg h1, if_neg h2, if_neg h3, if_neg h4]
theorem node_p (s : RS) : (nodeS s).p = s.p := by
  unfold nodeS RS.wrong
  repeat' split
  all_goals rfl
theorem counts_more {t : List UInt8} {s : RS} (h0 : s.e = 0) (h : (countsD t s).2.e = 0) : s.p ≤ (countsD t s).2.p := by
  obtain ⟨l, ⟨r1, _⟩, _⟩ := counts_sound h0 h
  rw [r1]; show s.p ≤ s.p + l.length; omega
/-- A kid that lies in a slice of its own. -/
theorem RgOk.rep {ro : Ro} {n : RgD} {v : List Value} {a : Option Addr} {x y : Int} (hv : RgOk ro n v) (hr : Rs ro a 1 1 8 v) : RgOk ro (repD n x y) (nodeV 5 zeroS a 1 1 x y) := by
  rw [repD, RgOk]
  exact ⟨a, 1, v, rfl, zeroS_in, hr, by rw [RgsOk]; exact ⟨v, [], by simp, hv, by rw [RgsOk]⟩⟩
section
variable {ro : Ro} {own r : Chs} {K : Value → Ro → Chs → Prop} {g : Chunk → Chs} {q : Nat} {t : List UInt8}
set_option maxHeartbeats 8000000 in
theorem repeat_ok {s : RS} [hb : HasBlk own q 71 (rsV t s) g] {d : Nat} {x : Int} (ha : AltC t d) (hx : x = 32 - (d : Int)) (hd : d ≤ 32) (hi : Inv t s) (h0 : s.e = 0) (hn : s.n ≤ 512) (hl : t.length ≤ 10000)
    (hk : ∀ ro' v, Le ro ro' → RgOk ro' (pieceD t (altD t d) s).1 v → K (.agg v.toArray) ro' (g (.blk q 71 (rsV t (pieceD t (altD t d) s).2)))) :
    CallOk Try.prog 52 #[ptr' q, .int .i64 x] ro own K := by
  obtain ⟨r, p1, p2⟩ := hb.split
  refine CallOk.perm p1 ?_
  have hp := hi.p0 h0
  unfold pieceD at hk
  obtain ⟨R, hR⟩ : ∃ R, R = repL t (t.length + 1) (atomD t (altD t d) s).1 (atomD t (altD t d) s).2 := ⟨_, rfl⟩
  rw [← hR] at hk
  have hia : Inv t (atomD t (altD t d) s).2 := hi.atom (fun h _ => Inv.alt h) h0
  have hna : NB (513 + 2 * d) (atomD t (altD t d) s).2 := NB.atom (by omega) (fun h0 hn => NB.alt h0 hn) h0 hn
  refine CallOk.intro (args := [_, _]) (rs := [_]) T_ok Try.func52 Try.call52 rfl rfl (by kernel_rfl) rfl rfl ?_
  repeat (first
    | (show _ ∧ _; exact ⟨rfl, rfl, rfl⟩)
    | refine wkP ?_
    | (show OpOk _ _ _ _ _ _ _; first | refine opB (fun b => ?_) | refine opA (fun a' c' hc1 hc2 => ?_))
    | (show GJ _ _ _ _ _ _ _; first | (apply GJ.and; exact rfl; intro hg) | (apply GJ.or; exact rfl; intro hg)))
  obtain ⟨b4, hb4⟩ : ∃ z : Nat, z = b := ⟨_, rfl⟩
  subst hb4
  refine atom_ok (t := t) (s := s) ha hx hd hi h0 hn hl (fun ro1 v hl1 hv => ?_)
  generalize (atomD t (altD t d) s).1 = n0 at hR hv
  generalize (atomD t (altD t d) s).2 = s0 at hR hia hna ⊢
  obtain ⟨a1, c1, hvc⟩ := hv.cells
  obtain ⟨V, hV⟩ : ∃ V, V = v := ⟨_, rfl⟩
  rw [← hV] at hv
  subst hvc
  repeat (first
    | (show _ ∧ _; exact ⟨rfl, rfl, rfl⟩)
    | refine wkP ?_
    | (show OpOk _ _ _ _ _ _ _; first | refine opB (fun b => ?_) | refine opA (fun a' c' hc1 hc2 => ?_))
    | (show GJ _ _ _ _ _ _ _; first | (apply GJ.and; exact rfl; intro hg) | (apply GJ.or; exact rfl; intro hg)))
  rw [← hV]
  clear hV
  obtain ⟨b5, hb5⟩ : ∃ z : Nat, z = b := ⟨_, rfl⟩
  subst hb5
  refine LoopOk.auto (ι := Nat × RgD × List Value × RS) Keep.auto (fun (k, n, v, s1) => []) (fun (k, n, v, s1) => .blk b5 26 v :: .blk b4 26 (nodeV 0 zeroS none 0 0 0 0) :: .blk q 71 (rsV t s1) :: r) (fun (k, n, v, s1) ro2 => RgOk ro2 n v ∧ repL t k n s1 = R ∧ (s1.e = 0 → t.length + 1 ≤ k + s1.p) ∧ Inv t s1 ∧ NB (513 + 2 * d) s1) (fun (k, n, v, s1) => k) (t.length + 1, n0, V, s0) ?_ Sub.auto Sup.auto ?_
  · exact ⟨hv, hR.symm, fun _ => by omega, hia, hna⟩
  rintro ⟨k, n, v, s1⟩ ro2 hl2 ⟨i1, i2, i3, i4, i5⟩
  dsimp only [List.cons_append, List.nil_append] at i1 i2 i3 i4 i5 ⊢
  have hp1 := i4.p
  have hn1 := i5.n
  obtain ⟨a2, c2, hvc⟩ := i1.cells
  subst hvc
  repeat (first
    | (show _ ∧ _; exact ⟨rfl, rfl, rfl⟩)
    | refine wkP ?_
    | (show OpOk _ _ _ _ _ _ _; first | refine opB (fun b => ?_) | refine opA (fun a' c' hc1 hc2 => ?_))
    | (show GJ _ _ _ _ _ _ _; first | (apply GJ.and; exact rfl; intro hg) | (apply GJ.or; exact rfl; intro hg)))
  refine eat_ok (t := t) (s := s1) 42 rfl (by decide) (by omega) ?_
  by_cases h42 : peekD t s1 = 42
  · have hpp := peek_pos (t := t) (s := s1) (by rw [h42]; decide)
    have h3 := i3 hpp.1
    obtain ⟨k, rfl⟩ : ∃ j, k = j + 1 := ⟨k - 1, by omega⟩
    rw [repL, if_pos h42] at i2
    rw [decide_eq_true h42, eatS, if_pos h42]
    have hn2 : s1.adv.n ≤ 10000000 := by show s1.n ≤ _; omega
    have hiv : Inv t s1.adv := i4.adv (by rw [h42]; decide)
    have hsm : NB 513 (nodeS s1.adv) := i5.small hpp.1 rfl
    have hm2 : (nodeS s1.adv).e = 0 → t.length + 1 ≤ k + (nodeS s1.adv).p := fun _ => by rw [node_p]; show _ ≤ k + (s1.p + 1); omega
    repeat (first
      | (show _ ∧ _; exact ⟨rfl, rfl, rfl⟩)
      | refine wkP ?_
      | (show OpOk _ _ _ _ _ _ _; first | refine opB (fun b => ?_) | refine opA (fun a' c' hc1 hc2 => ?_))
      | (show GJ _ _ _ _ _ _ _; first | (apply GJ.and; exact rfl; intro hg) | (apply GJ.or; exact rfl; intro hg)))
    refine CallOk.freeze (c := .sl (some ⟨b, 0, none⟩) _ _ _ _ _) Take.auto (fun ro3 hl3 hc3 => ?_)
    have hv3 : RgOk ro3 n (nodeV n.kind n.set a2 n.kids.length c2 n.min n.max) := i1.le hl3
    have hr3 : Rs ro3 (some ⟨b, 0, none⟩) 1 1 8 (nodeV n.kind n.set a2 n.kids.length c2 n.min n.max) := Rs.last hc3
    refine node_ok (t := t) (s := s1.adv) (k := 5) (z := zeroS) (a := some ⟨b, 0, none⟩) (m := 1) (c := 1) (x := 0) (y := (-1)) hn2 ?_
    repeat (first
      | (show _ ∧ _; exact ⟨rfl, rfl, rfl⟩)
      | refine wkP ?_
      | (show OpOk _ _ _ _ _ _ _; first | refine opB (fun b => ?_) | refine opA (fun a' c' hc1 hc2 => ?_))
      | (show GJ _ _ _ _ _ _ _; first | (apply GJ.and; exact rfl; intro hg) | (apply GJ.or; exact rfl; intro hg)))
    refine Wk.id ⟨(k, repD n 0 (-1), nodeV 5 zeroS (some ⟨b, 0, none⟩) 1 1 0 (-1), nodeS s1.adv), ?_, ?_, Sub.auto, Sup.auto⟩
    all_goals try dsimp only
    · exact ⟨hv3.rep hr3, i2, hm2, hiv.node, hsm.le (by omega)⟩
    · omega
  rw [decide_eq_false h42, eatS, if_neg h42]
  repeat (first
    | (show _ ∧ _; exact ⟨rfl, rfl, rfl⟩)
    | refine wkP ?_
    | (show OpOk _ _ _ _ _ _ _; first | refine opB (fun b => ?_) | refine opA (fun a' c' hc1 hc2 => ?_))
    | (show GJ _ _ _ _ _ _ _; first | (apply GJ.and; exact rfl; intro hg) | (apply GJ.or; exact rfl; intro hg)))
  refine eat_ok (t := t) (s := s1) 43 rfl (by decide) (by omega) ?_
  by_cases h43 : peekD t s1 = 43
  · have hpp := peek_pos (t := t) (s := s1) (by rw [h43]; decide)
    have h3 := i3 hpp.1
    obtain ⟨k, rfl⟩ : ∃ j, k = j + 1 := ⟨k - 1, by omega⟩
    rw [repL, if_neg h42, if_pos h43] at i2
    rw [decide_eq_true h43, eatS, if_pos h43]
    have hn2 : s1.adv.n ≤ 10000000 := by show s1.n ≤ _; omega
    have hiv : Inv t s1.adv := i4.adv (by rw [h43]; decide)
    have hsm : NB 513 (nodeS s1.adv) := i5.small hpp.1 rfl
    have hm2 : (nodeS s1.adv).e = 0 → t.length + 1 ≤ k + (nodeS s1.adv).p := fun _ => by rw [node_p]; show _ ≤ k + (s1.p + 1); omega
    repeat (first
      | (show _ ∧ _; exact ⟨rfl, rfl, rfl⟩)
      | refine wkP ?_
      | (show OpOk _ _ _ _ _ _ _; first | refine opB (fun b => ?_) | refine opA (fun a' c' hc1 hc2 => ?_))
      | (show GJ _ _ _ _ _ _ _; first | (apply GJ.and; exact rfl; intro hg) | (apply GJ.or; exact rfl; intro hg)))
    refine CallOk.freeze (c := .sl (some ⟨b, 0, none⟩) _ _ _ _ _) Take.auto (fun ro3 hl3 hc3 => ?_)
    have hv3 : RgOk ro3 n (nodeV n.kind n.set a2 n.kids.length c2 n.min n.max) := i1.le hl3
    have hr3 : Rs ro3 (some ⟨b, 0, none⟩) 1 1 8 (nodeV n.kind n.set a2 n.kids.length c2 n.min n.max) := Rs.last hc3
    refine node_ok (t := t) (s := s1.adv) (k := 5) (z := zeroS) (a := some ⟨b, 0, none⟩) (m := 1) (c := 1) (x := 1) (y := (-1)) hn2 ?_
    repeat (first
      | (show _ ∧ _; exact ⟨rfl, rfl, rfl⟩)
      | refine wkP ?_
      | (show OpOk _ _ _ _ _ _ _; first | refine opB (fun b => ?_) | refine opA (fun a' c' hc1 hc2 => ?_))
      | (show GJ _ _ _ _ _ _ _; first | (apply GJ.and; exact rfl; intro hg) | (apply GJ.or; exact rfl; intro hg)))
    refine Wk.id ⟨(k, repD n 1 (-1), nodeV 5 zeroS (some ⟨b, 0, none⟩) 1 1 1 (-1), nodeS s1.adv), ?_, ?_, Sub.auto, Sup.auto⟩
    all_goals try dsimp only
    · exact ⟨hv3.rep hr3, i2, hm2, hiv.node, hsm.le (by omega)⟩
    · omega
  rw [decide_eq_false h43, eatS, if_neg h43]
  repeat (first
    | (show _ ∧ _; exact ⟨rfl, rfl, rfl⟩)
    | refine wkP ?_
    | (show OpOk _ _ _ _ _ _ _; first | refine opB (fun b => ?_) | refine opA (fun a' c' hc1 hc2 => ?_))
    | (show GJ _ _ _ _ _ _ _; first | (apply GJ.and; exact rfl; intro hg) | (apply GJ.or; exact rfl; intro hg)))
  refine eat_ok (t := t) (s := s1) 63 rfl (by decide) (by omega) ?_
  by_cases h63 : peekD t s1 = 63
  · have hpp := peek_pos (t := t) (s := s1) (by rw [h63]; decide)
    have h3 := i3 hpp.1
    obtain ⟨k, rfl⟩ : ∃ j, k = j + 1 := ⟨k - 1, by omega⟩
    rw [repL, if_neg h42, if_neg h43, if_pos h63] at i2
    rw [decide_eq_true h63, eatS, if_pos h63]
    have hn2 : s1.adv.n ≤ 10000000 := by show s1.n ≤ _; omega
    have hiv : Inv t s1.adv := i4.adv (by rw [h63]; decide)
    have hsm : NB 513 (nodeS s1.adv) := i5.small hpp.1 rfl
    have hm2 : (nodeS s1.adv).e = 0 → t.length + 1 ≤ k + (nodeS s1.adv).p := fun _ => by rw [node_p]; show _ ≤ k + (s1.p + 1); omega
    repeat (first
      | (show _ ∧ _; exact ⟨rfl, rfl, rfl⟩)
      | refine wkP ?_
      | (show OpOk _ _ _ _ _ _ _; first | refine opB (fun b => ?_) | refine opA (fun a' c' hc1 hc2 => ?_))
      | (show GJ _ _ _ _ _ _ _; first | (apply GJ.and; exact rfl; intro hg) | (apply GJ.or; exact rfl; intro hg)))
    refine CallOk.freeze (c := .sl (some ⟨b, 0, none⟩) _ _ _ _ _) Take.auto (fun ro3 hl3 hc3 => ?_)
    have hv3 : RgOk ro3 n (nodeV n.kind n.set a2 n.kids.length c2 n.min n.max) := i1.le hl3
    have hr3 : Rs ro3 (some ⟨b, 0, none⟩) 1 1 8 (nodeV n.kind n.set a2 n.kids.length c2 n.min n.max) := Rs.last hc3
    refine node_ok (t := t) (s := s1.adv) (k := 5) (z := zeroS) (a := some ⟨b, 0, none⟩) (m := 1) (c := 1) (x := 0) (y := 1) hn2 ?_
    repeat (first
      | (show _ ∧ _; exact ⟨rfl, rfl, rfl⟩)
      | refine wkP ?_
      | (show OpOk _ _ _ _ _ _ _; first | refine opB (fun b => ?_) | refine opA (fun a' c' hc1 hc2 => ?_))
      | (show GJ _ _ _ _ _ _ _; first | (apply GJ.and; exact rfl; intro hg) | (apply GJ.or; exact rfl; intro hg)))
    refine Wk.id ⟨(k, repD n 0 1, nodeV 5 zeroS (some ⟨b, 0, none⟩) 1 1 0 1, nodeS s1.adv), ?_, ?_, Sub.auto, Sup.auto⟩
    all_goals try dsimp only
    · exact ⟨hv3.rep hr3, i2, hm2, hiv.node, hsm.le (by omega)⟩
    · omega
  rw [decide_eq_false h63, eatS, if_neg h63]
  repeat (first
    | (show _ ∧ _; exact ⟨rfl, rfl, rfl⟩)
    | refine wkP ?_
    | (show OpOk _ _ _ _ _ _ _; first | refine opB (fun b => ?_) | refine opA (fun a' c' hc1 hc2 => ?_))
    | (show GJ _ _ _ _ _ _ _; first | (apply GJ.and; exact rfl; intro hg) | (apply GJ.or; exact rfl; intro hg)))
  refine eat_ok (t := t) (s := s1) 123 rfl (by decide) (by omega) ?_
  by_cases h123 : peekD t s1 = 123
  · have hpp := peek_pos (t := t) (s := s1) (by rw [h123]; decide)
    have h3 := i3 hpp.1
    obtain ⟨k, rfl⟩ : ∃ j, k = j + 1 := ⟨k - 1, by omega⟩
    rw [repL, if_neg h42, if_neg h43, if_neg h63, if_pos h123] at i2
    rw [decide_eq_true h123, eatS, if_pos h123]
    have hiv : Inv t (countsD t s1.adv).2 := (i4.adv (by rw [h123]; decide)).counts hpp.2
    have hsm : NB 513 (nodeS (countsD t s1.adv).2) := i5.small hpp.1 counts_n
    have hn2 : (countsD t s1.adv).2.n ≤ 10000000 := by rw [counts_n]; show s1.n ≤ _; omega
    have hm2 : (nodeS (countsD t s1.adv).2).e = 0 → t.length + 1 ≤ k + (nodeS (countsD t s1.adv).2).p := fun he => by
      rw [node_p]
      have := counts_more (t := t) (s := s1.adv) hpp.1 (node_sound (t := t) he).2
      have e : s1.adv.p = s1.p + 1 := rfl
      omega
    repeat (first
      | (show _ ∧ _; exact ⟨rfl, rfl, rfl⟩)
      | refine wkP ?_
      | (show OpOk _ _ _ _ _ _ _; first | refine opB (fun b => ?_) | refine opA (fun a' c' hc1 hc2 => ?_))
      | (show GJ _ _ _ _ _ _ _; first | (apply GJ.and; exact rfl; intro hg) | (apply GJ.or; exact rfl; intro hg)))
    refine rcounts_ok (t := t) (s := s1.adv) hpp.1 (by show s1.p + 1 ≤ _; omega) hl ?_
    generalize (countsD t s1.adv).1.1 = lo at i2 ⊢
    generalize (countsD t s1.adv).1.2 = hi2 at i2 ⊢
    generalize (countsD t s1.adv).2 = s2 at i2 hiv hsm hn2 hm2 ⊢
    repeat (first
      | (show _ ∧ _; exact ⟨rfl, rfl, rfl⟩)
      | refine wkP ?_
      | (show OpOk _ _ _ _ _ _ _; first | refine opB (fun b => ?_) | refine opA (fun a' c' hc1 hc2 => ?_))
      | (show GJ _ _ _ _ _ _ _; first | (apply GJ.and; exact rfl; intro hg) | (apply GJ.or; exact rfl; intro hg)))
    refine CallOk.freeze (c := .sl (some ⟨b, 0, none⟩) _ _ _ _ _) Take.auto (fun ro3 hl3 hc3 => ?_)
    have hv3 : RgOk ro3 n (nodeV n.kind n.set a2 n.kids.length c2 n.min n.max) := i1.le hl3
    have hr3 : Rs ro3 (some ⟨b, 0, none⟩) 1 1 8 (nodeV n.kind n.set a2 n.kids.length c2 n.min n.max) := Rs.last hc3
    refine node_ok (t := t) (s := s2) (k := 5) (z := zeroS) (a := some ⟨b, 0, none⟩) (m := 1) (c := 1) (x := (lo : Int)) (y := hi2) hn2 ?_
    repeat (first
      | (show _ ∧ _; exact ⟨rfl, rfl, rfl⟩)
      | refine wkP ?_
      | (show OpOk _ _ _ _ _ _ _; first | refine opB (fun b => ?_) | refine opA (fun a' c' hc1 hc2 => ?_))
      | (show GJ _ _ _ _ _ _ _; first | (apply GJ.and; exact rfl; intro hg) | (apply GJ.or; exact rfl; intro hg)))
    refine Wk.id ⟨(k, repD n (lo : Int) hi2, nodeV 5 zeroS (some ⟨b, 0, none⟩) 1 1 (lo : Int) hi2, nodeS s2), ?_, ?_, Sub.auto, Sup.auto⟩
    all_goals try dsimp only
    · exact ⟨hv3.rep hr3, i2, hm2, hiv.node, hsm.le (by omega)⟩
    · omega
  rw [decide_eq_false h123, eatS, if_neg h123]
  rw [rep_none h42 h43 h63 h123] at i2
  rw [← i2] at hk
  repeat (first
    | (show _ ∧ _; exact ⟨rfl, rfl, rfl⟩)
    | refine wkP ?_
    | (show OpOk _ _ _ _ _ _ _; first | refine opB (fun b => ?_) | refine opA (fun a' c' hc1 hc2 => ?_))
    | (show GJ _ _ _ _ _ _ _; first | (apply GJ.and; exact rfl; intro hg) | (apply GJ.or; exact rfl; intro hg)))
  exact Wk.outS Sup.auto (p2 _) (hk ro2 _ (hl1.trans hl2) i1)
end
end Go.Proofs.Ytkpdnpcmeadggaa
