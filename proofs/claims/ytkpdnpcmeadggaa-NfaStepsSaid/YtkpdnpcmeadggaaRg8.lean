/- Contracts of regex: cat. -/
import Derived.Test.YtkpdnpcmeadggaaRg7
namespace Go.Proofs.Ytkpdnpcmeadggaa
open Go Go.E
set_option linter.unusedVariables false
set_option linter.unusedSimpArgs false
set_option maxRecDepth 10000
theorem cat_none {t : List UInt8} {alt : RS → RgD × RS} {k : Nat} {l : List RgD} {s : RS} (h : peekD t s = 0 ∨ peekD t s = 124 ∨ peekD t s = 41) : catL t alt k l s = (l, s) := by
  cases k with
  | zero => rfl
  | succ k => rw [catL, if_neg (fun x => by omega)]
theorem RgOk.many {ro : Ro} {k : Int} {l : List RgD} {cs : List Value} {a : Option Addr} {c : Nat} (hl : RgsOk ro l cs) (hr : Rs ro a l.length c 8 cs) : RgOk ro (.mk k zeroS l 0 0) (nodeV k zeroS a l.length c 0 0) := by
  rw [RgOk]; exact ⟨a, c, cs, rfl, zeroS_in, hr, hl⟩
theorem RgsOk.single {ro : Ro} {n : RgD} {cs : List Value} (h : RgsOk ro [n] cs) : RgOk ro n cs := by
  rw [RgsOk] at h
  obtain ⟨v, r, rfl, h1, h2⟩ := h
  rw [RgsOk] at h2; subst h2
  rw [List.append_nil]; exact h1
theorem piece_more {t : List UInt8} {d : Nat} {s : RS} (h : (pieceD t (altD t d) s).2.e = 0) : s.p + 1 ≤ (pieceD t (altD t d) s).2.p := by
  obtain ⟨l, ⟨r1, _⟩, hp⟩ := piece_sound (t := t) (alt := altD t d) ⟨fun h => alt_sound h, fun h => alt_keep h⟩ h
  obtain ⟨x, m, hx, _⟩ := hp.head
  rw [r1, hx]; show s.p + 1 ≤ s.p + (m.length + 1); omega
section
variable {ro : Ro} {own r : Chs} {K : Value → Ro → Chs → Prop} {g : Chunk → Chs} {q : Nat} {t : List UInt8}
set_option maxHeartbeats 8000000 in
theorem cat_ok {s : RS} [hb : HasBlk own q 71 (rsV t s) g] {d : Nat} {x : Int} (ha : AltC t d) (hx : x = 32 - (d : Int)) (hd : d ≤ 32) (hi : Inv t s) (h0 : s.e = 0) (hn : s.n ≤ 512) (hl : t.length ≤ 10000)
    (hk : ∀ ro' v, Le ro ro' → RgOk ro' (catD t (altD t d) s).1 v → K (.agg v.toArray) ro' (g (.blk q 71 (rsV t (catD t (altD t d) s).2)))) :
    CallOk Try.prog 37 #[ptr' q, .int .i64 x] ro own K := by
  obtain ⟨r, p1, p2⟩ := hb.split
  refine CallOk.perm p1 ?_
  have hp := hi.p0 h0
  unfold catD at hk
  obtain ⟨R, hR⟩ : ∃ R, R = catL t (altD t d) (t.length + 1) [] s := ⟨_, rfl⟩
  rw [← hR] at hk
  refine CallOk.intro (args := [_, _]) (rs := [_]) T_ok Try.func37 Try.call37 rfl rfl (by kernel_rfl) rfl rfl ?_
  repeat (first
    | (show _ ∧ _; exact ⟨rfl, rfl, rfl⟩)
    | refine wkP ?_
    | (show OpOk _ _ _ _ _ _ _; first | refine opB (fun b => ?_) | refine opA (fun a' c' hc1 hc2 => ?_))
    | (show GJ _ _ _ _ _ _ _; first | (apply GJ.and; exact rfl; intro hg) | (apply GJ.or; exact rfl; intro hg)))
  obtain ⟨b4, hb4⟩ : ∃ z : Nat, z = b := ⟨_, rfl⟩
  subst hb4
  refine peek_ok (t := t) (s := s) ?_
  repeat (first
    | (show _ ∧ _; exact ⟨rfl, rfl, rfl⟩)
    | refine wkP ?_
    | (show OpOk _ _ _ _ _ _ _; first | refine opB (fun b => ?_) | refine opA (fun a' c' hc1 hc2 => ?_))
    | (show GJ _ _ _ _ _ _ _; first | (apply GJ.and; exact rfl; intro hg) | (apply GJ.or; exact rfl; intro hg)))
  refine LoopOk.auto (ι := Nat × List RgD × List Value × RS × Option Addr × Nat) Keep.auto (fun (k, l, cs, s1, ad, cp) => [(5, .slice ad l.length cp), (6, .int .u8 (peekD t s1 : Int))]) (fun (k, l, cs, s1, ad, cp) => .sl ad l.length cp 26 8 cs :: .blk b4 26 (nodeV 0 zeroS none 0 0 0 0) :: .blk q 71 (rsV t s1) :: r) (fun (k, l, cs, s1, ad, cp) ro2 => RgsOk ro2 l cs ∧ catL t (altD t d) k l s1 = R ∧ (s1.e = 0 → t.length + 1 ≤ k + s1.p ∧ l.length ≤ s1.p) ∧ l.length ≤ t.length + 1 ∧ Inv t s1 ∧ NB (513 + 2 * d) s1 ∧ l.length ≤ cp ∧ cp ≤ maxLen) (fun (k, l, cs, s1, ad, cp) => k) (t.length + 1, [], [], s, none, 0) ?_ Sub.auto Sup.auto ?_
  · exact ⟨by rw [RgsOk], hR.symm, fun _ => ⟨by omega, Nat.zero_le _⟩, Nat.zero_le _, hi, ⟨fun _ => hn, by omega⟩, Nat.zero_le _, Nat.zero_le _⟩
  rintro ⟨k, l, cs, s1, ad, cp⟩ ro2 hl2 ⟨i1, i2, i3, i4, i5, i6, i7, i8⟩
  dsimp only [List.cons_append, List.nil_append] at i1 i2 i3 i4 i5 i6 i7 i8 ⊢
  have hp1 := i5.p
  have hn1 := i6.n
  have hL : cs.length = l.length * 8 := i1.len
  have hlt := peek_lt t s1
  by_cases hgo : peekD t s1 = 0 ∨ peekD t s1 = 124 ∨ peekD t s1 = 41
  · rw [cat_none hgo] at i2
    rw [← i2] at hk
    have hgo : ((peekD t s1 : Int) = 0 ∨ (peekD t s1 : Int) = 124 ∨ (peekD t s1 : Int) = 41) := by omega
    generalize (peekD t s1 : Int) = c at hgo ⊢
    have hgc : ¬ (c ≠ 0 ∧ c ≠ 124 ∧ c ≠ 41) := by omega
    repeat (first
      | (show _ ∧ _; exact ⟨rfl, rfl, rfl⟩)
      | refine wkP ?_
      | (show OpOk _ _ _ _ _ _ _; first | refine opB (fun b => ?_) | refine opA (fun a' c' hc1 hc2 => ?_))
      | (show GJ _ _ _ _ _ _ _; first | (apply GJ.and; exact rfl; intro hg) | (apply GJ.or; exact rfl; intro hg)))
    rcases l with _ | ⟨x1, _ | ⟨y1, l1⟩⟩
    · refine Br.t rfl ?_
      repeat (first
        | (show _ ∧ _; exact ⟨rfl, rfl, rfl⟩)
        | refine wkP ?_
        | (show OpOk _ _ _ _ _ _ _; first | refine opB (fun b => ?_) | refine opA (fun a' c' hc1 hc2 => ?_))
        | (show GJ _ _ _ _ _ _ _; first | (apply GJ.and; exact rfl; intro hg) | (apply GJ.or; exact rfl; intro hg)))
      refine node_ok (t := t) (s := s1) (k := 1) (z := zeroS) (a := none) (m := 0) (c := 0) (x := 0) (y := 0) (by omega) ?_
      repeat (first
        | (show _ ∧ _; exact ⟨rfl, rfl, rfl⟩)
        | refine wkP ?_
        | (show OpOk _ _ _ _ _ _ _; first | refine opB (fun b => ?_) | refine opA (fun a' c' hc1 hc2 => ?_))
        | (show GJ _ _ _ _ _ _ _; first | (apply GJ.and; exact rfl; intro hg) | (apply GJ.or; exact rfl; intro hg)))
      exact Wk.outS Sup.auto (p2 _) (hk ro2 _ hl2 (RgOk.leaf zeroS_in))
    · rw [show ([x1] : List RgD).length = 1 from rfl] at i4 i7 hL ⊢
      have hv := i1.single
      obtain ⟨a1, c1, hvc⟩ := hv.cells
      subst hvc
      refine Br.f (by simp) ?_
      repeat (first
        | (show _ ∧ _; exact ⟨rfl, rfl, rfl⟩)
        | refine wkP ?_
        | (show OpOk _ _ _ _ _ _ _; first | refine opB (fun b => ?_) | refine opA (fun a' c' hc1 hc2 => ?_))
        | (show GJ _ _ _ _ _ _ _; first | (apply GJ.and; exact rfl; intro hg) | (apply GJ.or; exact rfl; intro hg)))
      refine OpOk.loadRow rfl rfl (LdN.slRow (k := 0) (z := 8) (cs := nodeV x1.kind x1.set a1 x1.kids.length c1 x1.min x1.max) (vs := nodeV x1.kind x1.set a1 x1.kids.length c1 x1.min x1.max) rfl) rfl ?_
      repeat (first
        | (show _ ∧ _; exact ⟨rfl, rfl, rfl⟩)
        | refine wkP ?_
        | (show OpOk _ _ _ _ _ _ _; first | refine opB (fun b => ?_) | refine opA (fun a' c' hc1 hc2 => ?_))
        | (show GJ _ _ _ _ _ _ _; first | (apply GJ.and; exact rfl; intro hg) | (apply GJ.or; exact rfl; intro hg)))
      exact Wk.outS Sup.auto (p2 _) (hk ro2 _ hl2 hv)
    · have hlen : 2 ≤ (x1 :: y1 :: l1).length := by simp
      have hcat : catOf (x1 :: y1 :: l1, s1) = (catD' (x1 :: y1 :: l1), nodeS s1) := rfl
      rw [hcat] at hk
      generalize x1 :: y1 :: l1 = l at hk i1 i2 i3 i4 i7 hL hlen ⊢
      repeat (first
        | (show _ ∧ _; exact ⟨rfl, rfl, rfl⟩)
        | refine wkP ?_
        | (show OpOk _ _ _ _ _ _ _; first | refine opB (fun b => ?_) | refine opA (fun a' c' hc1 hc2 => ?_))
        | (show GJ _ _ _ _ _ _ _; first | (apply GJ.and; exact rfl; intro hg) | (apply GJ.or; exact rfl; intro hg)))
      refine CallOk.freeze (c := .sl ad _ _ _ _ _) Take.auto (fun ro3 hl3 hc3 => ?_)
      have hw := RgOk.many (k := 3) (i1.le hl3) (Rs.last hc3)
      refine node_ok (t := t) (s := s1) (k := 3) (z := zeroS) (a := ad) (m := l.length) (c := cp) (x := 0) (y := 0) (by omega) ?_
      repeat (first
        | (show _ ∧ _; exact ⟨rfl, rfl, rfl⟩)
        | refine wkP ?_
        | (show OpOk _ _ _ _ _ _ _; first | refine opB (fun b => ?_) | refine opA (fun a' c' hc1 hc2 => ?_))
        | (show GJ _ _ _ _ _ _ _; first | (apply GJ.and; exact rfl; intro hg) | (apply GJ.or; exact rfl; intro hg)))
      exact Wk.outS Sup.auto (p2 _) (hk ro3 _ (hl2.trans hl3) hw)
  · have hpp := peek_pos (t := t) (s := s1) (by omega)
    obtain ⟨h3, h4⟩ := i3 hpp.1
    obtain ⟨k, rfl⟩ : ∃ j, k = j + 1 := ⟨k - 1, by omega⟩
    rw [catL, if_pos (by omega)] at i2
    have hgo : ¬ (peekD t s1 : Int) = 0 ∧ ¬ (peekD t s1 : Int) = 124 ∧ ¬ (peekD t s1 : Int) = 41 := by omega
    have hin : Inv t (pieceD t (altD t d) s1).2 := i5.piece (fun h _ => Inv.alt h) hpp.1
    have hnn : NB (513 + 2 * d) (pieceD t (altD t d) s1).2 := NB.piece (by omega) (fun h0 hn => NB.alt h0 hn) hpp.1 (i6.n0 hpp.1)
    have hmore := piece_more (t := t) (d := d) (s := s1)
    generalize (peekD t s1 : Int) = c at hgo ⊢
    obtain ⟨g1, g2, g3⟩ := hgo
    repeat (first
      | (show _ ∧ _; exact ⟨rfl, rfl, rfl⟩)
      | refine wkP ?_
      | (show OpOk _ _ _ _ _ _ _; first | refine opB (fun b => ?_) | refine opA (fun a' c' hc1 hc2 => ?_))
      | (show GJ _ _ _ _ _ _ _; first | (apply GJ.and; exact rfl; intro hg) | (apply GJ.or; exact rfl; intro hg)))
    refine repeat_ok (t := t) (s := s1) ha hx hd i5 hpp.1 (i6.n0 hpp.1) hl (fun ro3 v hl3 hv => ?_)
    generalize (pieceD t (altD t d) s1).1 = n at i2 hv
    generalize (pieceD t (altD t d) s1).2 = s2 at i2 hin hnn hmore ⊢
    obtain ⟨a1, c1, hvc⟩ := hv.cells
    subst hvc
    repeat (first
      | (show _ ∧ _; exact ⟨rfl, rfl, rfl⟩)
      | refine wkP ?_
      | (show OpOk _ _ _ _ _ _ _; first | refine opB (fun b => ?_) | refine opA (fun a' c' hc1 hc2 => ?_))
      | (show GJ _ _ _ _ _ _ _; first | (apply GJ.and; exact rfl; intro hg) | (apply GJ.or; exact rfl; intro hg)))
    rw [show l.length + 1 = (l ++ [n]).length by simp] at hc1 ⊢
    repeat (first
      | (show _ ∧ _; exact ⟨rfl, rfl, rfl⟩)
      | refine wkP ?_
      | (show OpOk _ _ _ _ _ _ _; first | refine opB (fun b => ?_) | refine opA (fun a' c' hc1 hc2 => ?_))
      | (show GJ _ _ _ _ _ _ _; first | (apply GJ.and; exact rfl; intro hg) | (apply GJ.or; exact rfl; intro hg)))
    refine peek_ok (t := t) (s := s2) ?_
    repeat (first
      | (show _ ∧ _; exact ⟨rfl, rfl, rfl⟩)
      | refine wkP ?_
      | (show OpOk _ _ _ _ _ _ _; first | refine opB (fun b => ?_) | refine opA (fun a' c' hc1 hc2 => ?_))
      | (show GJ _ _ _ _ _ _ _; first | (apply GJ.and; exact rfl; intro hg) | (apply GJ.or; exact rfl; intro hg)))
    refine Wk.id ⟨(k, l ++ [n], cs ++ nodeV n.kind n.set a1 n.kids.length c1 n.min n.max, s2, a', c'), ?_, ?_, Sub.auto, Sup.auto⟩
    all_goals try dsimp only
    · refine ⟨RgsOk.snoc hv (i1.le hl3), i2, fun he => ?_, by simp; omega, hin, hnn, hc1, hc2⟩
      have := hmore he
      simp; omega
    · omega
end
end Go.Proofs.Ytkpdnpcmeadggaa
