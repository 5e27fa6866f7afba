/- Contracts of regex: alt, Parse. -/
import Derived.Test.YtkpdnpcmeadggaaRg8
namespace Go.Proofs.Ytkpdnpcmeadggaa
open Go Go.E
set_option linter.unusedVariables false
set_option linter.unusedSimpArgs false
set_option maxRecDepth 10000
theorem alt_none {t : List UInt8} {alt : RS → RgD × RS} {k : Nat} {l : List RgD} {s : RS} (h : ¬ peekD t s = 124) : altL t alt k l s = (l, s) := by
  cases k with
  | zero => rfl
  | succ k => rw [altL, if_neg h]
theorem cat_more {t : List UInt8} {d : Nat} {s : RS} (h : (catD t (altD t d) s).2.e = 0) : s.p ≤ (catD t (altD t d) s).2.p := by
  obtain ⟨l, ⟨r1, _⟩, _⟩ := cat_sound (t := t) (alt := altD t d) ⟨fun h => alt_sound h, fun h => alt_keep h⟩ h
  rw [r1]; show s.p ≤ s.p + l.length; omega
set_option maxHeartbeats 8000000 in
theorem altC {t : List UInt8} (hl : t.length ≤ 10000) : ∀ d : Nat, d ≤ 33 → AltC t d := by
  intro d
  induction d with
  | zero =>
    intro _
    unfold AltC
    intro ro own g q s K hb hi h0 hn hk
    obtain ⟨r, p1, p2⟩ := hb.split
    refine CallOk.perm p1 ?_
    refine CallOk.intro (args := [_, _]) (rs := [_]) T_ok Try.func27 Try.call27 rfl rfl (by kernel_rfl) rfl rfl ?_
    repeat (first
      | (show _ ∧ _; exact ⟨rfl, rfl, rfl⟩)
      | refine wkP ?_
      | (show OpOk _ _ _ _ _ _ _; first | refine opB (fun b => ?_) | refine opA (fun a' c' hc1 hc2 => ?_))
      | (show GJ _ _ _ _ _ _ _; first | (apply GJ.and; exact rfl; intro hg) | (apply GJ.or; exact rfl; intro hg)))
    refine rwrong_ok (t := t) (s := s) 6 s.p rfl rfl ?_
    repeat (first
      | (show _ ∧ _; exact ⟨rfl, rfl, rfl⟩)
      | refine wkP ?_
      | (show OpOk _ _ _ _ _ _ _; first | refine opB (fun b => ?_) | refine opA (fun a' c' hc1 hc2 => ?_))
      | (show GJ _ _ _ _ _ _ _; first | (apply GJ.and; exact rfl; intro hg) | (apply GJ.or; exact rfl; intro hg)))
    exact Wk.outS Sup.auto (p2 _) (hk ro _ (.refl _) (RgOk.leaf zeroS_in))
  | succ d ih =>
    intro hd
    have ha : AltC t d := ih (by omega)
    unfold AltC
    intro ro own g q s K hb hi h0 hn hk
    obtain ⟨r, p1, p2⟩ := hb.split
    refine CallOk.perm p1 ?_
    have hp := hi.p0 h0
    rw [altD] at hk
    obtain ⟨R, hR⟩ : ∃ R, R = altL t (altD t d) (t.length + 1) [(catD t (altD t d) s).1] (catD t (altD t d) s).2 := ⟨_, rfl⟩
    rw [← hR] at hk
    have hic : Inv t (catD t (altD t d) s).2 := hi.cat (fun h _ => Inv.alt h)
    have hnc : NB (513 + 2 * d + 1) (catD t (altD t d) s).2 := NB.cat (t := t) (by omega) (fun h0 hn => NB.alt h0 hn) ⟨fun _ => hn, by omega⟩
    have hmc := cat_more (t := t) (d := d) (s := s)
    have hx : 33 - ((d + 1 : Nat) : Int) = 32 - (d : Int) := by omega
    rw [hx]
    generalize hX : 32 - (d : Int) = X
    have hX : X = 32 - (d : Int) := hX.symm
    refine CallOk.intro (args := [_, _]) (rs := [_]) T_ok Try.func27 Try.call27 rfl rfl (by kernel_rfl) rfl rfl ?_
    repeat (first
      | (show _ ∧ _; exact ⟨rfl, rfl, rfl⟩)
      | refine wkP ?_
      | (show OpOk _ _ _ _ _ _ _; first | refine opB (fun b => ?_) | refine opA (fun a' c' hc1 hc2 => ?_))
      | (show GJ _ _ _ _ _ _ _; first | (apply GJ.and; exact rfl; intro hg) | (apply GJ.or; exact rfl; intro hg)))
    obtain ⟨b4, hb4⟩ : ∃ z : Nat, z = b := ⟨_, rfl⟩
    subst hb4
    refine cat_ok (t := t) (s := s) ha hX (by omega) hi h0 hn hl (fun ro1 v hl1 hv => ?_)
    generalize (catD t (altD t d) s).1 = n0 at hR hv
    generalize (catD t (altD t d) s).2 = s0 at hR hic hnc hmc ⊢
    obtain ⟨a1, c1, hvc⟩ := hv.cells
    subst hvc
    repeat (first
      | (show _ ∧ _; exact ⟨rfl, rfl, rfl⟩)
      | refine wkP ?_
      | (show OpOk _ _ _ _ _ _ _; first | refine opB (fun b => ?_) | refine opA (fun a' c' hc1 hc2 => ?_))
      | (show GJ _ _ _ _ _ _ _; first | (apply GJ.and; exact rfl; intro hg) | (apply GJ.or; exact rfl; intro hg)))
    refine LoopOk.auto (ι := Nat × List RgD × List Value × RS × Option Addr × Nat) Keep.auto (fun (k, l, cs, s1, ad, cp) => [(5, .slice ad l.length cp)]) (fun (k, l, cs, s1, ad, cp) => .sl ad l.length cp 26 8 cs :: .blk b4 26 (nodeV 0 zeroS none 0 0 0 0) :: .blk q 71 (rsV t s1) :: r) (fun (k, l, cs, s1, ad, cp) ro2 => RgsOk ro2 l cs ∧ altL t (altD t d) k l s1 = R ∧ (s1.e = 0 → t.length + 1 ≤ k + s1.p ∧ l.length ≤ s1.p + 1) ∧ (1 ≤ l.length ∧ l.length ≤ t.length + 2) ∧ Inv t s1 ∧ NB (513 + 2 * d + 1) s1 ∧ l.length ≤ cp ∧ cp ≤ maxLen) (fun (k, l, cs, s1, ad, cp) => k) (t.length + 1, [n0], nodeV n0.kind n0.set a1 n0.kids.length c1 n0.min n0.max, s0, some ⟨b, 0, none⟩, 1) ?_ Sub.auto Sup.auto ?_
    · refine ⟨?_, hR.symm, fun h => ⟨by have := hmc h; omega, by simp⟩, by simp, hic, hnc, by simp, by decide⟩
      rw [RgsOk]; exact ⟨_, [], by simp, hv, by rw [RgsOk]⟩
    rintro ⟨k, l, cs, s1, ad, cp⟩ ro2 hl2 ⟨i1, i2, i3, i4, i5, i6, i7, i8⟩
    dsimp only [List.cons_append, List.nil_append] at i1 i2 i3 i4 i5 i6 i7 i8 ⊢
    have hp1 := i5.p
    have hn1 := i6.n
    have hL : cs.length = l.length * 8 := i1.len
    repeat (first
      | (show _ ∧ _; exact ⟨rfl, rfl, rfl⟩)
      | refine wkP ?_
      | (show OpOk _ _ _ _ _ _ _; first | refine opB (fun b => ?_) | refine opA (fun a' c' hc1 hc2 => ?_))
      | (show GJ _ _ _ _ _ _ _; first | (apply GJ.and; exact rfl; intro hg) | (apply GJ.or; exact rfl; intro hg)))
    refine eat_ok (t := t) (s := s1) 124 rfl (by decide) (by omega) ?_
    by_cases h124 : ¬ peekD t s1 = 124
    · rw [alt_none h124] at i2
      rw [← i2] at hk
      rw [decide_eq_false h124, eatS, if_neg h124]
      repeat (first
        | (show _ ∧ _; exact ⟨rfl, rfl, rfl⟩)
        | refine wkP ?_
        | (show OpOk _ _ _ _ _ _ _; first | refine opB (fun b => ?_) | refine opA (fun a' c' hc1 hc2 => ?_))
        | (show GJ _ _ _ _ _ _ _; first | (apply GJ.and; exact rfl; intro hg) | (apply GJ.or; exact rfl; intro hg)))
      rcases l with _ | ⟨x1, _ | ⟨y1, l1⟩⟩
      · exact absurd i4.1 (by decide)
      · rw [show ([x1] : List RgD).length = 1 from rfl] at i4 i7 hL ⊢
        have hv := i1.single
        obtain ⟨a1, c1, hvc⟩ := hv.cells
        subst hvc
        repeat (first
          | (show _ ∧ _; exact ⟨rfl, rfl, rfl⟩)
          | refine wkP ?_
          | (show OpOk _ _ _ _ _ _ _; first | refine opB (fun b => ?_) | refine opA (fun a' c' hc1 hc2 => ?_))
          | (show GJ _ _ _ _ _ _ _; first | (apply GJ.and; exact rfl; intro hg) | (apply GJ.or; exact rfl; intro hg)))
        refine OpOk.loadRow rfl rfl (LdN.slRow (k := 0) (z := 8) (cs := nodeV x1.kind x1.set a1 x1.kids.length c1 x1.min x1.max) (vs := nodeV x1.kind x1.set a1 x1.kids.length c1 x1.min x1.max) rfl) rfl ?_
        repeat (first
          | (show _ ∧ _; exact ⟨rfl, rfl, rfl⟩)
          | refine wkP ?_
          | (show OpOk _ _ _ _ _ _ _; first | refine opB (fun b => ?_) | refine opA (fun a' c' hc1 hc2 => ?_))
          | (show GJ _ _ _ _ _ _ _; first | (apply GJ.and; exact rfl; intro hg) | (apply GJ.or; exact rfl; intro hg)))
        exact Wk.outS Sup.auto (p2 _) (hk ro2 _ (hl1.trans hl2) hv)
      · have hlen : 2 ≤ (x1 :: y1 :: l1).length := by simp
        have hcat : altOf (x1 :: y1 :: l1, s1) = (altD' (x1 :: y1 :: l1), nodeS s1) := rfl
        rw [hcat] at hk
        generalize x1 :: y1 :: l1 = l at hk i1 i2 i3 i4 i7 hL hlen ⊢
        refine Br.f (by omega) ?_
        repeat (first
          | (show _ ∧ _; exact ⟨rfl, rfl, rfl⟩)
          | refine wkP ?_
          | (show OpOk _ _ _ _ _ _ _; first | refine opB (fun b => ?_) | refine opA (fun a' c' hc1 hc2 => ?_))
          | (show GJ _ _ _ _ _ _ _; first | (apply GJ.and; exact rfl; intro hg) | (apply GJ.or; exact rfl; intro hg)))
        refine CallOk.freeze (c := .sl ad _ _ _ _ _) Take.auto (fun ro3 hl3 hc3 => ?_)
        have hw := RgOk.many (k := 4) (i1.le hl3) (Rs.last hc3)
        refine node_ok (t := t) (s := s1) (k := 4) (z := zeroS) (a := ad) (m := l.length) (c := cp) (x := 0) (y := 0) (by omega) ?_
        repeat (first
          | (show _ ∧ _; exact ⟨rfl, rfl, rfl⟩)
          | refine wkP ?_
          | (show OpOk _ _ _ _ _ _ _; first | refine opB (fun b => ?_) | refine opA (fun a' c' hc1 hc2 => ?_))
          | (show GJ _ _ _ _ _ _ _; first | (apply GJ.and; exact rfl; intro hg) | (apply GJ.or; exact rfl; intro hg)))
        exact Wk.outS Sup.auto (p2 _) (hk ro3 _ ((hl1.trans hl2).trans hl3) hw)
    · have h124 := Decidable.of_not_not h124
      have hpp := peek_pos (t := t) (s := s1) (by omega)
      obtain ⟨h3, h4⟩ := i3 hpp.1
      obtain ⟨k, rfl⟩ : ∃ j, k = j + 1 := ⟨k - 1, by omega⟩
      rw [altL, if_pos h124] at i2
      rw [decide_eq_true h124, eatS, if_pos h124]
      have hia : Inv t s1.adv := i5.adv (by omega)
      have hin : Inv t (catD t (altD t d) s1.adv).2 := hia.cat (fun h _ => Inv.alt h)
      have hnn : NB (513 + 2 * d + 1) (catD t (altD t d) s1.adv).2 := NB.cat (t := t) (s := s1.adv) (by omega) (fun h0 hn => NB.alt h0 hn) ⟨fun _ => i6.n0 hpp.1, by have := i6.n0 hpp.1; show s1.n ≤ _; omega⟩
      have hmore := cat_more (t := t) (d := d) (s := s1.adv)
      have hap : s1.adv.p = s1.p + 1 := rfl
      repeat (first
        | (show _ ∧ _; exact ⟨rfl, rfl, rfl⟩)
        | refine wkP ?_
        | (show OpOk _ _ _ _ _ _ _; first | refine opB (fun b => ?_) | refine opA (fun a' c' hc1 hc2 => ?_))
        | (show GJ _ _ _ _ _ _ _; first | (apply GJ.and; exact rfl; intro hg) | (apply GJ.or; exact rfl; intro hg)))
      refine cat_ok (t := t) (s := s1.adv) ha hX (by omega) hia hpp.1 (i6.n0 hpp.1) hl (fun ro3 v hl3 hv => ?_)
      generalize (catD t (altD t d) s1.adv).1 = n at i2 hv
      generalize (catD t (altD t d) s1.adv).2 = s2 at i2 hin hnn hmore ⊢
      obtain ⟨a1, c1, hvc⟩ := hv.cells
      subst hvc
      repeat (first
        | (show _ ∧ _; exact ⟨rfl, rfl, rfl⟩)
        | refine wkP ?_
        | (show OpOk _ _ _ _ _ _ _; first | refine opB (fun b => ?_) | refine opA (fun a' c' hc1 hc2 => ?_))
        | (show GJ _ _ _ _ _ _ _; first | (apply GJ.and; exact rfl; intro hg) | (apply GJ.or; exact rfl; intro hg)))
      rw [show l.length + 1 = (l ++ [n]).length by simp] at hc1 ⊢
      repeat (first
        | (show _ ∧ _; exact ⟨rfl, rfl, rfl⟩)
        | refine wkP ?_
        | (show OpOk _ _ _ _ _ _ _; first | refine opB (fun b => ?_) | refine opA (fun a' c' hc1 hc2 => ?_))
        | (show GJ _ _ _ _ _ _ _; first | (apply GJ.and; exact rfl; intro hg) | (apply GJ.or; exact rfl; intro hg)))
      refine Wk.id ⟨(k, l ++ [n], cs ++ nodeV n.kind n.set a1 n.kids.length c1 n.min n.max, s2, a', c'), ?_, ?_, Sub.auto, Sup.auto⟩
      all_goals try dsimp only
      · refine ⟨RgsOk.snoc hv (i1.le hl3), i2, fun he => ?_, by simp; omega, hin, hnn, hc1, hc2⟩
        have := hmore he
        simp; omega
      · omega
end Go.Proofs.Ytkpdnpcmeadggaa
