/- Contracts of the reference parser: Put All set. -/
import Derived.Test.YtniofdklhlbphaaDoorRfA
namespace Go.Proofs.YtniofdklhlbphaaDoor
open Go Go.E
set_option linter.unusedVariables false
set_option linter.unusedSimpArgs false
set_option maxRecDepth 10000
theorem add_same {s : SetD} {c : Nat} (hs : SetIn s) (hc : c < 256) (h : s.has c = true) : s.add c = s :=
  SetD.ext (SetIn.add hs hc) hs fun j hj => by
    rw [SetD.has_add hc hj]
    by_cases e : j = c
    · rw [e, h]; rfl
    · rw [decide_eq_false e, Bool.or_false]
theorem add_put {s : SetD} {c : Nat} (h : s.has c = false) : s.put (c / 64) (s.w (c / 64) + 2 ^ (c % 64)) = s.add c := by
  unfold SetD.add; rw [add_or h]
section
variable {ro : Ro} {own r : Chs} {K : Value → Ro → Chs → Prop} {g : Chunk → Chs}
theorem rput_ok {s : SetD} {c : Nat} (hs : SetIn s) (hc : c < 256) (hk : K (.agg (setV (s.add c)).toArray) ro own) : CallOk Tryd.prog 105 #[.agg (setV s).toArray, .int .u8 (c : Int)] ro own K := by
  have hw := hs (c / 64)
  have e : (c : Int) / 64 = ((c / 64 : Nat) : Int) := by omega
  have hin := SetIn.add hs hc (c / 64)
  refine CallOk.intro (args := [_, _]) (rs := [_]) T_ok Tryd.func105 Tryd.call105 rfl rfl (by kernel_rfl) rfl rfl ?_
  repeat (first
    | (show _ ∧ _; exact ⟨rfl, rfl, rfl⟩)
    | refine wkP ?_
    | (show OpOk _ _ _ _ _ _ _; first | refine opB (fun b => ?_) | refine opA (fun a' c' hc1 hc2 => ?_))
    | (show GJ _ _ _ _ _ _ _; first | (apply GJ.and; exact rfl; intro hg) | (apply GJ.or; exact rfl; intro hg)))
  rename_i bs
  obtain ⟨b2, hb2⟩ : ∃ z : Nat, z = b := ⟨_, rfl⟩
  subst hb2
  refine rhas_ok hs hc ?_
  by_cases h : s.has c = true
  · rw [h]
    rw [add_same hs hc h] at hk
    repeat (first
      | (show _ ∧ _; exact ⟨rfl, rfl, rfl⟩)
      | refine wkP ?_
      | (show OpOk _ _ _ _ _ _ _; first | refine opB (fun b => ?_) | refine opA (fun a' c' hc1 hc2 => ?_))
      | (show GJ _ _ _ _ _ _ _; first | (apply GJ.and; exact rfl; intro hg) | (apply GJ.or; exact rfl; intro hg)))
    exact Wk.outS Sup.auto (.refl _) hk
  · have h : s.has c = false := by simpa using h
    rw [h]
    repeat (first
      | (show _ ∧ _; exact ⟨rfl, rfl, rfl⟩)
      | refine wkP ?_
      | (show OpOk _ _ _ _ _ _ _; first | refine opB (fun b => ?_) | refine opA (fun a' c' hc1 hc2 => ?_))
      | (show GJ _ _ _ _ _ _ _; first | (apply GJ.and; exact rfl; intro hg) | (apply GJ.or; exact rfl; intro hg)))
    rw [e]
    refine OpOk.load rfl rfl (Ld.setAt s rfl (k := c / 64) (by omega) (by omega)) ?_
    repeat (first
      | (show _ ∧ _; exact ⟨rfl, rfl, rfl⟩)
      | refine wkP ?_
      | (show OpOk _ _ _ _ _ _ _; first | refine opB (fun b => ?_) | refine opA (fun a' c' hc1 hc2 => ?_))
      | (show GJ _ _ _ _ _ _ _; first | (apply GJ.and; exact rfl; intro hg) | (apply GJ.or; exact rfl; intro hg)))
    have hsum : s.w (c / 64) + 2 ^ (c % 64) < 18446744073709551616 := by
      have h2 := hin
      rw [← add_put h, SetD.w_put (by omega) (by omega), if_pos rfl] at h2
      exact h2
    rw [show (c : Int) % 64 = ((c % 64 : Nat) : Int) by omega, shl1_nat (c % 64) (by omega)]
    rw [← add_put h] at hk
    generalize 2 ^ (c % 64) = q at hsum hk ⊢
    repeat (first
      | (show _ ∧ _; exact ⟨rfl, rfl, rfl⟩)
      | refine wkP ?_
      | (show OpOk _ _ _ _ _ _ _; first | refine opB (fun b => ?_) | refine opA (fun a' c' hc1 hc2 => ?_))
      | (show GJ _ _ _ _ _ _ _; first | (apply GJ.and; exact rfl; intro hg) | (apply GJ.or; exact rfl; intro hg)))
    refine storeSet (k := c / 64) (w := s.w (c / 64) + q) s rfl rfl (by omega) rfl rfl (by omega) (by omega) ?_
    repeat (first
      | (show _ ∧ _; exact ⟨rfl, rfl, rfl⟩)
      | refine wkP ?_
      | (show OpOk _ _ _ _ _ _ _; first | refine opB (fun b => ?_) | refine opA (fun a' c' hc1 hc2 => ?_))
      | (show GJ _ _ _ _ _ _ _; first | (apply GJ.and; exact rfl; intro hg) | (apply GJ.or; exact rfl; intro hg)))
    exact Wk.outS Sup.auto (.refl _) hk
theorem rall_ok (hk : K (.agg (setV allD).toArray) ro own) : CallOk Tryd.prog 103 #[] ro own K := by
  rw [← fill_all] at hk
  refine CallOk.intro (args := []) (rs := [_]) T_ok Tryd.func103 Tryd.call103 rfl rfl (by kernel_rfl) rfl rfl ?_
  repeat (first
    | (show _ ∧ _; exact ⟨rfl, rfl, rfl⟩)
    | refine wkP ?_
    | (show OpOk _ _ _ _ _ _ _; first | refine opB (fun b => ?_) | refine opA (fun a' c' hc1 hc2 => ?_))
    | (show GJ _ _ _ _ _ _ _; first | (apply GJ.and; exact rfl; intro hg) | (apply GJ.or; exact rfl; intro hg)))
  rename_i b0
  refine LoopOk.at (ι := Nat) Keep.auto (fun j => [(2, .int .i64 (j : Int))]) (fun j => .blk b 55 (setV (fillD zeroS 0 j)) :: .blk b0 55 (setV zeroS) :: own) (fun j => j ≤ 256) (fun j => 256 - j) 0 ?_ Sub.auto Sup.auto ?_
  · exact Nat.zero_le _
  rintro j j1
  dsimp only [List.cons_append, List.nil_append] at j1 ⊢
  repeat (first
    | (show _ ∧ _; exact ⟨rfl, rfl, rfl⟩)
    | refine wkP ?_
    | (show OpOk _ _ _ _ _ _ _; first | refine opB (fun b => ?_) | refine opA (fun a' c' hc1 hc2 => ?_))
    | (show GJ _ _ _ _ _ _ _; first | (apply GJ.and; exact rfl; intro hg) | (apply GJ.or; exact rfl; intro hg)))
  refine Br.cases (fun hg => ?_) (fun hg => ?_)
  · have hin := fill_in (c := 0) zeroS_in j (by omega)
    have hf : (fillD zeroS 0 j).add j = fillD zeroS 0 (j + 1) := by rw [fill_succ, Nat.zero_add]
    repeat (first
      | (show _ ∧ _; exact ⟨rfl, rfl, rfl⟩)
      | refine wkP ?_
      | (show OpOk _ _ _ _ _ _ _; first | refine opB (fun b => ?_) | refine opA (fun a' c' hc1 hc2 => ?_))
      | (show GJ _ _ _ _ _ _ _; first | (apply GJ.and; exact rfl; intro hg) | (apply GJ.or; exact rfl; intro hg)))
    rw [show (j : Int) % 256 = (j : Int) by omega]
    refine rput_ok hin (by omega) ?_
    rw [hf]
    repeat (first
      | (show _ ∧ _; exact ⟨rfl, rfl, rfl⟩)
      | refine wkP ?_
      | (show OpOk _ _ _ _ _ _ _; first | refine opB (fun b => ?_) | refine opA (fun a' c' hc1 hc2 => ?_))
      | (show GJ _ _ _ _ _ _ _; first | (apply GJ.and; exact rfl; intro hg) | (apply GJ.or; exact rfl; intro hg)))
    refine Wk.id ⟨j + 1, ⟨rfl, ?_⟩, ?_, Sub.auto, Sup.auto⟩
    all_goals try dsimp only
    · omega
    · omega
  · obtain rfl : j = 256 := by omega
    repeat (first
      | (show _ ∧ _; exact ⟨rfl, rfl, rfl⟩)
      | refine wkP ?_
      | (show OpOk _ _ _ _ _ _ _; first | refine opB (fun b => ?_) | refine opA (fun a' c' hc1 hc2 => ?_))
      | (show GJ _ _ _ _ _ _ _; first | (apply GJ.and; exact rfl; intro hg) | (apply GJ.or; exact rfl; intro hg)))
    exact Wk.outS Sup.auto (.refl _) hk
set_option maxHeartbeats 4000000 in
theorem rset_ok {t : List UInt8} {z : SetD} (h : DSet (t ++ [93]) z) (hl : t.length ≤ 900) (hk : K (.agg (setV z).toArray) ro own) : CallOk Tryd.prog 104 #[str t] ro own K := by
  obtain ⟨ps, hps, hb⟩ := h.form
  have hph := pairs_head hps
  rcases hb with ⟨rfl, hne, rfl⟩ | ⟨rfl, rfl⟩
  · rcases hph with ⟨_, h0⟩ | ⟨x, m, hx, hx1, hx2⟩
    · exact absurd h0 hne
    have hx3 : x.toNat ≠ 94 := u8_ne hx2
    have g := get_drop (t := textsOf ps) (i := 0) (by rw [List.drop_zero]; exact hx)
    obtain ⟨tx, hT⟩ : ∃ tx, tx = textsOf ps := ⟨_, rfl⟩
    rw [← hT] at g hl ⊢
    refine CallOk.intro (args := [_]) (rs := [_]) T_ok Tryd.func104 Tryd.call104 rfl rfl (by kernel_rfl) rfl rfl ?_
    repeat (first
      | (show _ ∧ _; exact ⟨rfl, rfl, rfl⟩)
      | refine wkP ?_
      | (show OpOk _ _ _ _ _ _ _; first | refine opB (fun b => ?_) | refine opA (fun a' c' hc1 hc2 => ?_))
      | (show GJ _ _ _ _ _ _ _; first | (apply GJ.and; exact rfl; intro hg) | (apply GJ.or; exact rfl; intro hg)))
    rw [show tx[Int.toNat 0]! = x from g.2]
    obtain ⟨b2, hb2⟩ : ∃ z : Nat, z = b := ⟨_, rfl⟩
    subst hb2
    repeat (first
      | (show _ ∧ _; exact ⟨rfl, rfl, rfl⟩)
      | refine wkP ?_
      | (show OpOk _ _ _ _ _ _ _; first | refine opB (fun b => ?_) | refine opA (fun a' c' hc1 hc2 => ?_))
      | (show GJ _ _ _ _ _ _ _; first | (apply GJ.and; exact rfl; intro hg) | (apply GJ.or; exact rfl; intro hg)))
    rw [hT] at hl ⊢
    refine LoopOk.at (ι := Nat) Keep.auto (fun j => [(0, str (textsOf (ps.drop j)))]) (fun j => .blk b 55 (setV (pairsD zeroS (ps.take j))) :: .blk b2 55 (setV zeroS) :: own) (fun j => j ≤ ps.length ∧ (textsOf (ps.drop j)).length ≤ 900) (fun j => ps.length - j) 0 ?_ Sub.auto Sup.auto ?_
    · exact ⟨Nat.zero_le _, by rw [List.drop_zero]; omega⟩
    rintro j ⟨j1, j2⟩
    dsimp only [List.cons_append, List.nil_append] at j1 j2 ⊢
    by_cases hj : j < ps.length
    · obtain ⟨p, hp, hd⟩ := drop_get hj
      have hdp := hps p (List.mem_of_getElem? hp)
      have hph2 := pairs_head (ps := ps.drop (j + 1)) (fun q hq => hps q (List.mem_of_mem_drop hq))
      have htk := pairs_take (z := zeroS) hp
      have hzi := pairs_in zeroS_in (ps.take j)
      rw [hd, texts_cons] at j2 ⊢
      obtain ⟨R, hR⟩ : ∃ R, R = textsOf (ps.drop (j + 1)) := ⟨_, rfl⟩
      rw [← hR] at hph2 j2 ⊢
      rw [List.length_append] at j2
      obtain ⟨pt, c, e⟩ := p
      dsimp only at hdp htk j2 ⊢
      generalize pairsD zeroS (ps.take j) = Z at htk hzi ⊢
      rcases hdp.form with ⟨hb, hde⟩ | ⟨a, m, hpe, ha, hm, hle⟩
      · subst hde
        obtain ⟨hsk, x1, m1, he1, _⟩ := hb.sk
        have hpl : 0 < pt.length := by rw [he1]; simp
        obtain ⟨hl3, hl4⟩ : 0 < (pt ++ R).length ∧ (pt ++ R).length ≤ 900 := by rw [List.length_append]; omega
        have hl5 : pt.length ≤ (pt ++ R).length := by rw [List.length_append]; omega
        have hc := hb.lt
        repeat (first
          | (show _ ∧ _; exact ⟨rfl, rfl, rfl⟩)
          | refine wkP ?_
          | (show OpOk _ _ _ _ _ _ _; first | refine opB (fun b => ?_) | refine opA (fun a' c' hc1 hc2 => ?_))
          | (show GJ _ _ _ _ _ _ _; first | (apply GJ.and; exact rfl; intro hg) | (apply GJ.or; exact rfl; intro hg)))
        refine skip_ok hsk R _ _ _ (by omega) ?_
        repeat (first
          | (show _ ∧ _; exact ⟨rfl, rfl, rfl⟩)
          | refine wkP ?_
          | (show OpOk _ _ _ _ _ _ _; first | refine opB (fun b => ?_) | refine opA (fun a' c' hc1 hc2 => ?_))
          | (show GJ _ _ _ _ _ _ _; first | (apply GJ.and; exact rfl; intro hg) | (apply GJ.or; exact rfl; intro hg)))
        rw [show ((pt.length : Nat) : Int).toNat = pt.length from rfl, List.take_left]
        repeat (first
          | (show _ ∧ _; exact ⟨rfl, rfl, rfl⟩)
          | refine wkP ?_
          | (show OpOk _ _ _ _ _ _ _; first | refine opB (fun b => ?_) | refine opA (fun a' c' hc1 hc2 => ?_))
          | (show GJ _ _ _ _ _ _ _; first | (apply GJ.and; exact rfl; intro hg) | (apply GJ.or; exact rfl; intro hg)))
        refine rname_ok hb ?_
        repeat (first
          | (show _ ∧ _; exact ⟨rfl, rfl, rfl⟩)
          | refine wkP ?_
          | (show OpOk _ _ _ _ _ _ _; first | refine opB (fun b => ?_) | refine opA (fun a' c' hc1 hc2 => ?_))
          | (show GJ _ _ _ _ _ _ _; first | (apply GJ.and; exact rfl; intro hg) | (apply GJ.or; exact rfl; intro hg)))
        rw [show ((pt.length : Nat) : Int).toNat = pt.length from rfl, List.drop_left]
        repeat (first
          | (show _ ∧ _; exact ⟨rfl, rfl, rfl⟩)
          | refine wkP ?_
          | (show OpOk _ _ _ _ _ _ _; first | refine opB (fun b => ?_) | refine opA (fun a' c' hc1 hc2 => ?_))
          | (show GJ _ _ _ _ _ _ _; first | (apply GJ.and; exact rfl; intro hg) | (apply GJ.or; exact rfl; intro hg)))
        have hno : ¬ ((R.length : Int) > 0 ∧ ((R[Int.toNat 0]!).toNat : Int) = 45) := by
          rcases hph2 with ⟨rfl, _⟩ | ⟨x2, m2, rfl, hx45, _⟩
          · exact fun h => absurd h.1 (by decide)
          · have h45 : x2.toNat ≠ 45 := u8_ne hx45
            exact fun h => h45 (by have h9 := h.2; rw [get0] at h9; omega)
        refine Br.f hno ?_
        obtain ⟨F, hF0, hFs, hFin, hFall⟩ : ∃ F : Nat → SetD, F 0 = Z ∧ (∀ k, F (k + 1) = (F k).add (e + k)) ∧ (∀ k, e + k ≤ 256 → SetIn (F k)) ∧ F (e + 1 - e) = Z.or (rangeD e e) := ⟨fillD Z e, fill_zero Z e, fill_succ Z e, fun k hk => fill_in hzi k hk, fill_range hzi (by omega) (by omega)⟩
        rw [show setV Z = setV (F 0) by rw [hF0]]
        repeat (first
          | (show _ ∧ _; exact ⟨rfl, rfl, rfl⟩)
          | refine wkP ?_
          | (show OpOk _ _ _ _ _ _ _; first | refine opB (fun b => ?_) | refine opA (fun a' c' hc1 hc2 => ?_))
          | (show GJ _ _ _ _ _ _ _; first | (apply GJ.and; exact rfl; intro hg) | (apply GJ.or; exact rfl; intro hg)))
        refine LoopOk.at (ι := Nat) Keep.auto (fun k => [(8, .int .i64 ((e + k : Nat) : Int))]) (fun k => .blk b 55 (setV (F k)) :: .blk b2 55 (setV zeroS) :: own) (fun k => k ≤ e + 1 - e) (fun k => e + 1 - e - k) 0 ?_ Sub.auto Sup.auto ?_
        · exact Nat.zero_le _
        rintro k k1
        dsimp only [List.cons_append, List.nil_append] at k1 ⊢
        repeat (first
          | (show _ ∧ _; exact ⟨rfl, rfl, rfl⟩)
          | refine wkP ?_
          | (show OpOk _ _ _ _ _ _ _; first | refine opB (fun b => ?_) | refine opA (fun a' c' hc1 hc2 => ?_))
          | (show GJ _ _ _ _ _ _ _; first | (apply GJ.and; exact rfl; intro hg) | (apply GJ.or; exact rfl; intro hg)))
        refine Br.cases (fun hg => ?_) (fun hg => ?_)
        · repeat (first
            | (show _ ∧ _; exact ⟨rfl, rfl, rfl⟩)
            | refine wkP ?_
            | (show OpOk _ _ _ _ _ _ _; first | refine opB (fun b => ?_) | refine opA (fun a' c' hc1 hc2 => ?_))
            | (show GJ _ _ _ _ _ _ _; first | (apply GJ.and; exact rfl; intro hg) | (apply GJ.or; exact rfl; intro hg)))
          rw [show ((e + k : Nat) : Int) % 256 = ((e + k : Nat) : Int) by omega]
          refine rput_ok (hFin k (by omega)) (by omega) ?_
          rw [← hFs]
          repeat (first
            | (show _ ∧ _; exact ⟨rfl, rfl, rfl⟩)
            | refine wkP ?_
            | (show OpOk _ _ _ _ _ _ _; first | refine opB (fun b => ?_) | refine opA (fun a' c' hc1 hc2 => ?_))
            | (show GJ _ _ _ _ _ _ _; first | (apply GJ.and; exact rfl; intro hg) | (apply GJ.or; exact rfl; intro hg)))
          refine Wk.id ⟨k + 1, ⟨rfl, ?_⟩, ?_, Sub.auto, Sup.auto⟩
          all_goals try dsimp only
          · omega
          · omega
        · obtain rfl : k = e + 1 - e := by omega
          rw [hFall, ← htk]
          subst hR
          repeat (first
            | (show _ ∧ _; exact ⟨rfl, rfl, rfl⟩)
            | refine wkP ?_
            | (show OpOk _ _ _ _ _ _ _; first | refine opB (fun b => ?_) | refine opA (fun a' c' hc1 hc2 => ?_))
            | (show GJ _ _ _ _ _ _ _; first | (apply GJ.and; exact rfl; intro hg) | (apply GJ.or; exact rfl; intro hg)))
          refine Wk.id ⟨j + 1, ⟨rfl, ?_⟩, ?_, Sub.auto, Sup.auto⟩
          all_goals try dsimp only
          · exact ⟨by omega, by omega⟩
          · omega
      · obtain ⟨hsk, x1, m1, he1, _⟩ := ha.sk
        obtain ⟨hsk2, x2, m2, he2, _⟩ := hm.sk
        have hc := ha.lt
        have he := hm.lt
        subst hpe
        simp only [List.length_append, List.length_cons] at j2
        rw [List.append_assoc, List.cons_append]
        have hpl : 0 < a.length := by rw [he1]; simp
        have hpl2 : 0 < m.length := by rw [he2]; simp
        obtain ⟨R2, hR2⟩ : ∃ R2, R2 = m ++ R := ⟨_, rfl⟩
        have hR2l : R2.length = m.length + R.length := by rw [hR2, List.length_append]
        rw [← hR2]
        obtain ⟨hl3, hl4⟩ : 0 < (a ++ 45 :: R2).length ∧ (a ++ 45 :: R2).length ≤ 900 := by rw [List.length_append, List.length_cons]; omega
        have hl5 : a.length ≤ (a ++ 45 :: R2).length := by rw [List.length_append]; omega
        repeat (first
          | (show _ ∧ _; exact ⟨rfl, rfl, rfl⟩)
          | refine wkP ?_
          | (show OpOk _ _ _ _ _ _ _; first | refine opB (fun b => ?_) | refine opA (fun a' c' hc1 hc2 => ?_))
          | (show GJ _ _ _ _ _ _ _; first | (apply GJ.and; exact rfl; intro hg) | (apply GJ.or; exact rfl; intro hg)))
        refine skip_ok hsk (45 :: R2) _ _ _ (by rw [List.length_cons]; omega) ?_
        repeat (first
          | (show _ ∧ _; exact ⟨rfl, rfl, rfl⟩)
          | refine wkP ?_
          | (show OpOk _ _ _ _ _ _ _; first | refine opB (fun b => ?_) | refine opA (fun a' c' hc1 hc2 => ?_))
          | (show GJ _ _ _ _ _ _ _; first | (apply GJ.and; exact rfl; intro hg) | (apply GJ.or; exact rfl; intro hg)))
        rw [show ((a.length : Nat) : Int).toNat = a.length from rfl, List.take_left]
        repeat (first
          | (show _ ∧ _; exact ⟨rfl, rfl, rfl⟩)
          | refine wkP ?_
          | (show OpOk _ _ _ _ _ _ _; first | refine opB (fun b => ?_) | refine opA (fun a' c' hc1 hc2 => ?_))
          | (show GJ _ _ _ _ _ _ _; first | (apply GJ.and; exact rfl; intro hg) | (apply GJ.or; exact rfl; intro hg)))
        refine rname_ok ha ?_
        repeat (first
          | (show _ ∧ _; exact ⟨rfl, rfl, rfl⟩)
          | refine wkP ?_
          | (show OpOk _ _ _ _ _ _ _; first | refine opB (fun b => ?_) | refine opA (fun a' c' hc1 hc2 => ?_))
          | (show GJ _ _ _ _ _ _ _; first | (apply GJ.and; exact rfl; intro hg) | (apply GJ.or; exact rfl; intro hg)))
        rw [show ((a.length : Nat) : Int).toNat = a.length from rfl, List.drop_left]
        repeat (first
          | (show _ ∧ _; exact ⟨rfl, rfl, rfl⟩)
          | refine wkP ?_
          | (show OpOk _ _ _ _ _ _ _; first | refine opB (fun b => ?_) | refine opA (fun a' c' hc1 hc2 => ?_))
          | (show GJ _ _ _ _ _ _ _; first | (apply GJ.and; exact rfl; intro hg) | (apply GJ.or; exact rfl; intro hg)))
        refine Br.t ⟨by rw [List.length_cons]; omega, by rw [get0]; rfl⟩ ?_
        repeat (first
          | (show _ ∧ _; exact ⟨rfl, rfl, rfl⟩)
          | refine wkP ?_
          | (show OpOk _ _ _ _ _ _ _; first | refine opB (fun b => ?_) | refine opA (fun a' c' hc1 hc2 => ?_))
          | (show GJ _ _ _ _ _ _ _; first | (apply GJ.and; exact rfl; intro hg) | (apply GJ.or; exact rfl; intro hg)))
        refine ⟨⟨by omega, by rw [List.length_cons]; omega⟩, ?_⟩
        rw [show List.drop (Int.toNat 1) (45 :: R2) = R2 from rfl, hR2]
        have hl7 : (m ++ R).length = m.length + R.length := List.length_append
        repeat (first
          | (show _ ∧ _; exact ⟨rfl, rfl, rfl⟩)
          | refine wkP ?_
          | (show OpOk _ _ _ _ _ _ _; first | refine opB (fun b => ?_) | refine opA (fun a' c' hc1 hc2 => ?_))
          | (show GJ _ _ _ _ _ _ _; first | (apply GJ.and; exact rfl; intro hg) | (apply GJ.or; exact rfl; intro hg)))
        refine skip_ok hsk2 R _ _ _ (by omega) ?_
        repeat (first
          | (show _ ∧ _; exact ⟨rfl, rfl, rfl⟩)
          | refine wkP ?_
          | (show OpOk _ _ _ _ _ _ _; first | refine opB (fun b => ?_) | refine opA (fun a' c' hc1 hc2 => ?_))
          | (show GJ _ _ _ _ _ _ _; first | (apply GJ.and; exact rfl; intro hg) | (apply GJ.or; exact rfl; intro hg)))
        rw [show ((m.length : Nat) : Int).toNat = m.length from rfl, List.take_left]
        repeat (first
          | (show _ ∧ _; exact ⟨rfl, rfl, rfl⟩)
          | refine wkP ?_
          | (show OpOk _ _ _ _ _ _ _; first | refine opB (fun b => ?_) | refine opA (fun a' c' hc1 hc2 => ?_))
          | (show GJ _ _ _ _ _ _ _; first | (apply GJ.and; exact rfl; intro hg) | (apply GJ.or; exact rfl; intro hg)))
        refine rname_ok hm ?_
        repeat (first
          | (show _ ∧ _; exact ⟨rfl, rfl, rfl⟩)
          | refine wkP ?_
          | (show OpOk _ _ _ _ _ _ _; first | refine opB (fun b => ?_) | refine opA (fun a' c' hc1 hc2 => ?_))
          | (show GJ _ _ _ _ _ _ _; first | (apply GJ.and; exact rfl; intro hg) | (apply GJ.or; exact rfl; intro hg)))
        rw [show ((m.length : Nat) : Int).toNat = m.length from rfl, List.drop_left]
        obtain ⟨F, hF0, hFs, hFin, hFall⟩ : ∃ F : Nat → SetD, F 0 = Z ∧ (∀ k, F (k + 1) = (F k).add (c + k)) ∧ (∀ k, c + k ≤ 256 → SetIn (F k)) ∧ F (e + 1 - c) = Z.or (rangeD c e) := ⟨fillD Z c, fill_zero Z c, fill_succ Z c, fun k hk => fill_in hzi k hk, fill_range hzi (by omega) (by omega)⟩
        rw [show setV Z = setV (F 0) by rw [hF0]]
        repeat (first
          | (show _ ∧ _; exact ⟨rfl, rfl, rfl⟩)
          | refine wkP ?_
          | (show OpOk _ _ _ _ _ _ _; first | refine opB (fun b => ?_) | refine opA (fun a' c' hc1 hc2 => ?_))
          | (show GJ _ _ _ _ _ _ _; first | (apply GJ.and; exact rfl; intro hg) | (apply GJ.or; exact rfl; intro hg)))
        refine LoopOk.at (ι := Nat) Keep.auto (fun k => [(8, .int .i64 ((c + k : Nat) : Int))]) (fun k => .blk b 55 (setV (F k)) :: .blk b2 55 (setV zeroS) :: own) (fun k => k ≤ e + 1 - c) (fun k => e + 1 - c - k) 0 ?_ Sub.auto Sup.auto ?_
        · exact Nat.zero_le _
        rintro k k1
        dsimp only [List.cons_append, List.nil_append] at k1 ⊢
        repeat (first
          | (show _ ∧ _; exact ⟨rfl, rfl, rfl⟩)
          | refine wkP ?_
          | (show OpOk _ _ _ _ _ _ _; first | refine opB (fun b => ?_) | refine opA (fun a' c' hc1 hc2 => ?_))
          | (show GJ _ _ _ _ _ _ _; first | (apply GJ.and; exact rfl; intro hg) | (apply GJ.or; exact rfl; intro hg)))
        refine Br.cases (fun hg => ?_) (fun hg => ?_)
        · repeat (first
            | (show _ ∧ _; exact ⟨rfl, rfl, rfl⟩)
            | refine wkP ?_
            | (show OpOk _ _ _ _ _ _ _; first | refine opB (fun b => ?_) | refine opA (fun a' c' hc1 hc2 => ?_))
            | (show GJ _ _ _ _ _ _ _; first | (apply GJ.and; exact rfl; intro hg) | (apply GJ.or; exact rfl; intro hg)))
          rw [show ((c + k : Nat) : Int) % 256 = ((c + k : Nat) : Int) by omega]
          refine rput_ok (hFin k (by omega)) (by omega) ?_
          rw [← hFs]
          repeat (first
            | (show _ ∧ _; exact ⟨rfl, rfl, rfl⟩)
            | refine wkP ?_
            | (show OpOk _ _ _ _ _ _ _; first | refine opB (fun b => ?_) | refine opA (fun a' c' hc1 hc2 => ?_))
            | (show GJ _ _ _ _ _ _ _; first | (apply GJ.and; exact rfl; intro hg) | (apply GJ.or; exact rfl; intro hg)))
          refine Wk.id ⟨k + 1, ⟨rfl, ?_⟩, ?_, Sub.auto, Sup.auto⟩
          all_goals try dsimp only
          · omega
          · omega
        · obtain rfl : k = e + 1 - c := by omega
          rw [hFall, ← htk]
          subst hR
          repeat (first
            | (show _ ∧ _; exact ⟨rfl, rfl, rfl⟩)
            | refine wkP ?_
            | (show OpOk _ _ _ _ _ _ _; first | refine opB (fun b => ?_) | refine opA (fun a' c' hc1 hc2 => ?_))
            | (show GJ _ _ _ _ _ _ _; first | (apply GJ.and; exact rfl; intro hg) | (apply GJ.or; exact rfl; intro hg)))
          refine Wk.id ⟨j + 1, ⟨rfl, ?_⟩, ?_, Sub.auto, Sup.auto⟩
          all_goals try dsimp only
          · exact ⟨by omega, by omega⟩
          · omega
    obtain rfl : j = ps.length := by omega
    rw [List.drop_length, List.take_length]
    repeat (first
      | (show _ ∧ _; exact ⟨rfl, rfl, rfl⟩)
      | refine wkP ?_
      | (show OpOk _ _ _ _ _ _ _; first | refine opB (fun b => ?_) | refine opA (fun a' c' hc1 hc2 => ?_))
      | (show GJ _ _ _ _ _ _ _; first | (apply GJ.and; exact rfl; intro hg) | (apply GJ.or; exact rfl; intro hg)))
    exact Wk.outS Sup.auto (.refl _) hk
  · rw [List.length_cons] at hl
    refine CallOk.intro (args := [_]) (rs := [_]) T_ok Tryd.func104 Tryd.call104 rfl rfl (by kernel_rfl) rfl rfl ?_
    repeat (first
      | (show _ ∧ _; exact ⟨rfl, rfl, rfl⟩)
      | refine wkP ?_
      | (show OpOk _ _ _ _ _ _ _; first | refine opB (fun b => ?_) | refine opA (fun a' c' hc1 hc2 => ?_))
      | (show GJ _ _ _ _ _ _ _; first | (apply GJ.and; exact rfl; intro hg) | (apply GJ.or; exact rfl; intro hg)))
    obtain ⟨b2, hb2⟩ : ∃ z : Nat, z = b := ⟨_, rfl⟩
    subst hb2
    refine ⟨⟨by omega, by simp only [List.length_append, List.length_cons, List.length_nil]; omega⟩, ?_⟩
    simp only [get0, get1, get2, get3]
    repeat (first
      | (show _ ∧ _; exact ⟨rfl, rfl, rfl⟩)
      | refine wkP ?_
      | (show OpOk _ _ _ _ _ _ _; first | refine opB (fun b => ?_) | refine opA (fun a' c' hc1 hc2 => ?_))
      | (show GJ _ _ _ _ _ _ _; first | (apply GJ.and; exact rfl; intro hg) | (apply GJ.or; exact rfl; intro hg)))
    refine ⟨⟨by omega, by rw [List.length_cons]; omega⟩, ?_⟩
    rw [show List.drop (Int.toNat 1) (94 :: textsOf ps) = textsOf ps from rfl]
    repeat (first
      | (show _ ∧ _; exact ⟨rfl, rfl, rfl⟩)
      | refine wkP ?_
      | (show OpOk _ _ _ _ _ _ _; first | refine opB (fun b => ?_) | refine opA (fun a' c' hc1 hc2 => ?_))
      | (show GJ _ _ _ _ _ _ _; first | (apply GJ.and; exact rfl; intro hg) | (apply GJ.or; exact rfl; intro hg)))
    refine LoopOk.at (ι := Nat) Keep.auto (fun j => [(0, str (textsOf (ps.drop j)))]) (fun j => .blk b 55 (setV (pairsD zeroS (ps.take j))) :: .blk b2 55 (setV zeroS) :: own) (fun j => j ≤ ps.length ∧ (textsOf (ps.drop j)).length ≤ 900) (fun j => ps.length - j) 0 ?_ Sub.auto Sup.auto ?_
    · exact ⟨Nat.zero_le _, by rw [List.drop_zero]; omega⟩
    rintro j ⟨j1, j2⟩
    dsimp only [List.cons_append, List.nil_append] at j1 j2 ⊢
    by_cases hj : j < ps.length
    · obtain ⟨p, hp, hd⟩ := drop_get hj
      have hdp := hps p (List.mem_of_getElem? hp)
      have hph2 := pairs_head (ps := ps.drop (j + 1)) (fun q hq => hps q (List.mem_of_mem_drop hq))
      have htk := pairs_take (z := zeroS) hp
      have hzi := pairs_in zeroS_in (ps.take j)
      rw [hd, texts_cons] at j2 ⊢
      obtain ⟨R, hR⟩ : ∃ R, R = textsOf (ps.drop (j + 1)) := ⟨_, rfl⟩
      rw [← hR] at hph2 j2 ⊢
      rw [List.length_append] at j2
      obtain ⟨pt, c, e⟩ := p
      dsimp only at hdp htk j2 ⊢
      generalize pairsD zeroS (ps.take j) = Z at htk hzi ⊢
      rcases hdp.form with ⟨hb, hde⟩ | ⟨a, m, hpe, ha, hm, hle⟩
      · subst hde
        obtain ⟨hsk, x1, m1, he1, _⟩ := hb.sk
        have hpl : 0 < pt.length := by rw [he1]; simp
        obtain ⟨hl3, hl4⟩ : 0 < (pt ++ R).length ∧ (pt ++ R).length ≤ 900 := by rw [List.length_append]; omega
        have hl5 : pt.length ≤ (pt ++ R).length := by rw [List.length_append]; omega
        have hc := hb.lt
        repeat (first
          | (show _ ∧ _; exact ⟨rfl, rfl, rfl⟩)
          | refine wkP ?_
          | (show OpOk _ _ _ _ _ _ _; first | refine opB (fun b => ?_) | refine opA (fun a' c' hc1 hc2 => ?_))
          | (show GJ _ _ _ _ _ _ _; first | (apply GJ.and; exact rfl; intro hg) | (apply GJ.or; exact rfl; intro hg)))
        refine skip_ok hsk R _ _ _ (by omega) ?_
        repeat (first
          | (show _ ∧ _; exact ⟨rfl, rfl, rfl⟩)
          | refine wkP ?_
          | (show OpOk _ _ _ _ _ _ _; first | refine opB (fun b => ?_) | refine opA (fun a' c' hc1 hc2 => ?_))
          | (show GJ _ _ _ _ _ _ _; first | (apply GJ.and; exact rfl; intro hg) | (apply GJ.or; exact rfl; intro hg)))
        rw [show ((pt.length : Nat) : Int).toNat = pt.length from rfl, List.take_left]
        repeat (first
          | (show _ ∧ _; exact ⟨rfl, rfl, rfl⟩)
          | refine wkP ?_
          | (show OpOk _ _ _ _ _ _ _; first | refine opB (fun b => ?_) | refine opA (fun a' c' hc1 hc2 => ?_))
          | (show GJ _ _ _ _ _ _ _; first | (apply GJ.and; exact rfl; intro hg) | (apply GJ.or; exact rfl; intro hg)))
        refine rname_ok hb ?_
        repeat (first
          | (show _ ∧ _; exact ⟨rfl, rfl, rfl⟩)
          | refine wkP ?_
          | (show OpOk _ _ _ _ _ _ _; first | refine opB (fun b => ?_) | refine opA (fun a' c' hc1 hc2 => ?_))
          | (show GJ _ _ _ _ _ _ _; first | (apply GJ.and; exact rfl; intro hg) | (apply GJ.or; exact rfl; intro hg)))
        rw [show ((pt.length : Nat) : Int).toNat = pt.length from rfl, List.drop_left]
        repeat (first
          | (show _ ∧ _; exact ⟨rfl, rfl, rfl⟩)
          | refine wkP ?_
          | (show OpOk _ _ _ _ _ _ _; first | refine opB (fun b => ?_) | refine opA (fun a' c' hc1 hc2 => ?_))
          | (show GJ _ _ _ _ _ _ _; first | (apply GJ.and; exact rfl; intro hg) | (apply GJ.or; exact rfl; intro hg)))
        have hno : ¬ ((R.length : Int) > 0 ∧ ((R[Int.toNat 0]!).toNat : Int) = 45) := by
          rcases hph2 with ⟨rfl, _⟩ | ⟨x2, m2, rfl, hx45, _⟩
          · exact fun h => absurd h.1 (by decide)
          · have h45 : x2.toNat ≠ 45 := u8_ne hx45
            exact fun h => h45 (by have h9 := h.2; rw [get0] at h9; omega)
        refine Br.f hno ?_
        obtain ⟨F, hF0, hFs, hFin, hFall⟩ : ∃ F : Nat → SetD, F 0 = Z ∧ (∀ k, F (k + 1) = (F k).add (e + k)) ∧ (∀ k, e + k ≤ 256 → SetIn (F k)) ∧ F (e + 1 - e) = Z.or (rangeD e e) := ⟨fillD Z e, fill_zero Z e, fill_succ Z e, fun k hk => fill_in hzi k hk, fill_range hzi (by omega) (by omega)⟩
        rw [show setV Z = setV (F 0) by rw [hF0]]
        repeat (first
          | (show _ ∧ _; exact ⟨rfl, rfl, rfl⟩)
          | refine wkP ?_
          | (show OpOk _ _ _ _ _ _ _; first | refine opB (fun b => ?_) | refine opA (fun a' c' hc1 hc2 => ?_))
          | (show GJ _ _ _ _ _ _ _; first | (apply GJ.and; exact rfl; intro hg) | (apply GJ.or; exact rfl; intro hg)))
        refine LoopOk.at (ι := Nat) Keep.auto (fun k => [(8, .int .i64 ((e + k : Nat) : Int))]) (fun k => .blk b 55 (setV (F k)) :: .blk b2 55 (setV zeroS) :: own) (fun k => k ≤ e + 1 - e) (fun k => e + 1 - e - k) 0 ?_ Sub.auto Sup.auto ?_
        · exact Nat.zero_le _
        rintro k k1
        dsimp only [List.cons_append, List.nil_append] at k1 ⊢
        repeat (first
          | (show _ ∧ _; exact ⟨rfl, rfl, rfl⟩)
          | refine wkP ?_
          | (show OpOk _ _ _ _ _ _ _; first | refine opB (fun b => ?_) | refine opA (fun a' c' hc1 hc2 => ?_))
          | (show GJ _ _ _ _ _ _ _; first | (apply GJ.and; exact rfl; intro hg) | (apply GJ.or; exact rfl; intro hg)))
        refine Br.cases (fun hg => ?_) (fun hg => ?_)
        · repeat (first
            | (show _ ∧ _; exact ⟨rfl, rfl, rfl⟩)
            | refine wkP ?_
            | (show OpOk _ _ _ _ _ _ _; first | refine opB (fun b => ?_) | refine opA (fun a' c' hc1 hc2 => ?_))
            | (show GJ _ _ _ _ _ _ _; first | (apply GJ.and; exact rfl; intro hg) | (apply GJ.or; exact rfl; intro hg)))
          rw [show ((e + k : Nat) : Int) % 256 = ((e + k : Nat) : Int) by omega]
          refine rput_ok (hFin k (by omega)) (by omega) ?_
          rw [← hFs]
          repeat (first
            | (show _ ∧ _; exact ⟨rfl, rfl, rfl⟩)
            | refine wkP ?_
            | (show OpOk _ _ _ _ _ _ _; first | refine opB (fun b => ?_) | refine opA (fun a' c' hc1 hc2 => ?_))
            | (show GJ _ _ _ _ _ _ _; first | (apply GJ.and; exact rfl; intro hg) | (apply GJ.or; exact rfl; intro hg)))
          refine Wk.id ⟨k + 1, ⟨rfl, ?_⟩, ?_, Sub.auto, Sup.auto⟩
          all_goals try dsimp only
          · omega
          · omega
        · obtain rfl : k = e + 1 - e := by omega
          rw [hFall, ← htk]
          subst hR
          repeat (first
            | (show _ ∧ _; exact ⟨rfl, rfl, rfl⟩)
            | refine wkP ?_
            | (show OpOk _ _ _ _ _ _ _; first | refine opB (fun b => ?_) | refine opA (fun a' c' hc1 hc2 => ?_))
            | (show GJ _ _ _ _ _ _ _; first | (apply GJ.and; exact rfl; intro hg) | (apply GJ.or; exact rfl; intro hg)))
          refine Wk.id ⟨j + 1, ⟨rfl, ?_⟩, ?_, Sub.auto, Sup.auto⟩
          all_goals try dsimp only
          · exact ⟨by omega, by omega⟩
          · omega
      · obtain ⟨hsk, x1, m1, he1, _⟩ := ha.sk
        obtain ⟨hsk2, x2, m2, he2, _⟩ := hm.sk
        have hc := ha.lt
        have he := hm.lt
        subst hpe
        simp only [List.length_append, List.length_cons] at j2
        rw [List.append_assoc, List.cons_append]
        have hpl : 0 < a.length := by rw [he1]; simp
        have hpl2 : 0 < m.length := by rw [he2]; simp
        obtain ⟨R2, hR2⟩ : ∃ R2, R2 = m ++ R := ⟨_, rfl⟩
        have hR2l : R2.length = m.length + R.length := by rw [hR2, List.length_append]
        rw [← hR2]
        obtain ⟨hl3, hl4⟩ : 0 < (a ++ 45 :: R2).length ∧ (a ++ 45 :: R2).length ≤ 900 := by rw [List.length_append, List.length_cons]; omega
        have hl5 : a.length ≤ (a ++ 45 :: R2).length := by rw [List.length_append]; omega
        repeat (first
          | (show _ ∧ _; exact ⟨rfl, rfl, rfl⟩)
          | refine wkP ?_
          | (show OpOk _ _ _ _ _ _ _; first | refine opB (fun b => ?_) | refine opA (fun a' c' hc1 hc2 => ?_))
          | (show GJ _ _ _ _ _ _ _; first | (apply GJ.and; exact rfl; intro hg) | (apply GJ.or; exact rfl; intro hg)))
        refine skip_ok hsk (45 :: R2) _ _ _ (by rw [List.length_cons]; omega) ?_
        repeat (first
          | (show _ ∧ _; exact ⟨rfl, rfl, rfl⟩)
          | refine wkP ?_
          | (show OpOk _ _ _ _ _ _ _; first | refine opB (fun b => ?_) | refine opA (fun a' c' hc1 hc2 => ?_))
          | (show GJ _ _ _ _ _ _ _; first | (apply GJ.and; exact rfl; intro hg) | (apply GJ.or; exact rfl; intro hg)))
        rw [show ((a.length : Nat) : Int).toNat = a.length from rfl, List.take_left]
        repeat (first
          | (show _ ∧ _; exact ⟨rfl, rfl, rfl⟩)
          | refine wkP ?_
          | (show OpOk _ _ _ _ _ _ _; first | refine opB (fun b => ?_) | refine opA (fun a' c' hc1 hc2 => ?_))
          | (show GJ _ _ _ _ _ _ _; first | (apply GJ.and; exact rfl; intro hg) | (apply GJ.or; exact rfl; intro hg)))
        refine rname_ok ha ?_
        repeat (first
          | (show _ ∧ _; exact ⟨rfl, rfl, rfl⟩)
          | refine wkP ?_
          | (show OpOk _ _ _ _ _ _ _; first | refine opB (fun b => ?_) | refine opA (fun a' c' hc1 hc2 => ?_))
          | (show GJ _ _ _ _ _ _ _; first | (apply GJ.and; exact rfl; intro hg) | (apply GJ.or; exact rfl; intro hg)))
        rw [show ((a.length : Nat) : Int).toNat = a.length from rfl, List.drop_left]
        repeat (first
          | (show _ ∧ _; exact ⟨rfl, rfl, rfl⟩)
          | refine wkP ?_
          | (show OpOk _ _ _ _ _ _ _; first | refine opB (fun b => ?_) | refine opA (fun a' c' hc1 hc2 => ?_))
          | (show GJ _ _ _ _ _ _ _; first | (apply GJ.and; exact rfl; intro hg) | (apply GJ.or; exact rfl; intro hg)))
        refine Br.t ⟨by rw [List.length_cons]; omega, by rw [get0]; rfl⟩ ?_
        repeat (first
          | (show _ ∧ _; exact ⟨rfl, rfl, rfl⟩)
          | refine wkP ?_
          | (show OpOk _ _ _ _ _ _ _; first | refine opB (fun b => ?_) | refine opA (fun a' c' hc1 hc2 => ?_))
          | (show GJ _ _ _ _ _ _ _; first | (apply GJ.and; exact rfl; intro hg) | (apply GJ.or; exact rfl; intro hg)))
        refine ⟨⟨by omega, by rw [List.length_cons]; omega⟩, ?_⟩
        rw [show List.drop (Int.toNat 1) (45 :: R2) = R2 from rfl, hR2]
        have hl7 : (m ++ R).length = m.length + R.length := List.length_append
        repeat (first
          | (show _ ∧ _; exact ⟨rfl, rfl, rfl⟩)
          | refine wkP ?_
          | (show OpOk _ _ _ _ _ _ _; first | refine opB (fun b => ?_) | refine opA (fun a' c' hc1 hc2 => ?_))
          | (show GJ _ _ _ _ _ _ _; first | (apply GJ.and; exact rfl; intro hg) | (apply GJ.or; exact rfl; intro hg)))
        refine skip_ok hsk2 R _ _ _ (by omega) ?_
        repeat (first
          | (show _ ∧ _; exact ⟨rfl, rfl, rfl⟩)
          | refine wkP ?_
          | (show OpOk _ _ _ _ _ _ _; first | refine opB (fun b => ?_) | refine opA (fun a' c' hc1 hc2 => ?_))
          | (show GJ _ _ _ _ _ _ _; first | (apply GJ.and; exact rfl; intro hg) | (apply GJ.or; exact rfl; intro hg)))
        rw [show ((m.length : Nat) : Int).toNat = m.length from rfl, List.take_left]
        repeat (first
          | (show _ ∧ _; exact ⟨rfl, rfl, rfl⟩)
          | refine wkP ?_
          | (show OpOk _ _ _ _ _ _ _; first | refine opB (fun b => ?_) | refine opA (fun a' c' hc1 hc2 => ?_))
          | (show GJ _ _ _ _ _ _ _; first | (apply GJ.and; exact rfl; intro hg) | (apply GJ.or; exact rfl; intro hg)))
        refine rname_ok hm ?_
        repeat (first
          | (show _ ∧ _; exact ⟨rfl, rfl, rfl⟩)
          | refine wkP ?_
          | (show OpOk _ _ _ _ _ _ _; first | refine opB (fun b => ?_) | refine opA (fun a' c' hc1 hc2 => ?_))
          | (show GJ _ _ _ _ _ _ _; first | (apply GJ.and; exact rfl; intro hg) | (apply GJ.or; exact rfl; intro hg)))
        rw [show ((m.length : Nat) : Int).toNat = m.length from rfl, List.drop_left]
        obtain ⟨F, hF0, hFs, hFin, hFall⟩ : ∃ F : Nat → SetD, F 0 = Z ∧ (∀ k, F (k + 1) = (F k).add (c + k)) ∧ (∀ k, c + k ≤ 256 → SetIn (F k)) ∧ F (e + 1 - c) = Z.or (rangeD c e) := ⟨fillD Z c, fill_zero Z c, fill_succ Z c, fun k hk => fill_in hzi k hk, fill_range hzi (by omega) (by omega)⟩
        rw [show setV Z = setV (F 0) by rw [hF0]]
        repeat (first
          | (show _ ∧ _; exact ⟨rfl, rfl, rfl⟩)
          | refine wkP ?_
          | (show OpOk _ _ _ _ _ _ _; first | refine opB (fun b => ?_) | refine opA (fun a' c' hc1 hc2 => ?_))
          | (show GJ _ _ _ _ _ _ _; first | (apply GJ.and; exact rfl; intro hg) | (apply GJ.or; exact rfl; intro hg)))
        refine LoopOk.at (ι := Nat) Keep.auto (fun k => [(8, .int .i64 ((c + k : Nat) : Int))]) (fun k => .blk b 55 (setV (F k)) :: .blk b2 55 (setV zeroS) :: own) (fun k => k ≤ e + 1 - c) (fun k => e + 1 - c - k) 0 ?_ Sub.auto Sup.auto ?_
        · exact Nat.zero_le _
        rintro k k1
        dsimp only [List.cons_append, List.nil_append] at k1 ⊢
        repeat (first
          | (show _ ∧ _; exact ⟨rfl, rfl, rfl⟩)
          | refine wkP ?_
          | (show OpOk _ _ _ _ _ _ _; first | refine opB (fun b => ?_) | refine opA (fun a' c' hc1 hc2 => ?_))
          | (show GJ _ _ _ _ _ _ _; first | (apply GJ.and; exact rfl; intro hg) | (apply GJ.or; exact rfl; intro hg)))
        refine Br.cases (fun hg => ?_) (fun hg => ?_)
        · repeat (first
            | (show _ ∧ _; exact ⟨rfl, rfl, rfl⟩)
            | refine wkP ?_
            | (show OpOk _ _ _ _ _ _ _; first | refine opB (fun b => ?_) | refine opA (fun a' c' hc1 hc2 => ?_))
            | (show GJ _ _ _ _ _ _ _; first | (apply GJ.and; exact rfl; intro hg) | (apply GJ.or; exact rfl; intro hg)))
          rw [show ((c + k : Nat) : Int) % 256 = ((c + k : Nat) : Int) by omega]
          refine rput_ok (hFin k (by omega)) (by omega) ?_
          rw [← hFs]
          repeat (first
            | (show _ ∧ _; exact ⟨rfl, rfl, rfl⟩)
            | refine wkP ?_
            | (show OpOk _ _ _ _ _ _ _; first | refine opB (fun b => ?_) | refine opA (fun a' c' hc1 hc2 => ?_))
            | (show GJ _ _ _ _ _ _ _; first | (apply GJ.and; exact rfl; intro hg) | (apply GJ.or; exact rfl; intro hg)))
          refine Wk.id ⟨k + 1, ⟨rfl, ?_⟩, ?_, Sub.auto, Sup.auto⟩
          all_goals try dsimp only
          · omega
          · omega
        · obtain rfl : k = e + 1 - c := by omega
          rw [hFall, ← htk]
          subst hR
          repeat (first
            | (show _ ∧ _; exact ⟨rfl, rfl, rfl⟩)
            | refine wkP ?_
            | (show OpOk _ _ _ _ _ _ _; first | refine opB (fun b => ?_) | refine opA (fun a' c' hc1 hc2 => ?_))
            | (show GJ _ _ _ _ _ _ _; first | (apply GJ.and; exact rfl; intro hg) | (apply GJ.or; exact rfl; intro hg)))
          refine Wk.id ⟨j + 1, ⟨rfl, ?_⟩, ?_, Sub.auto, Sup.auto⟩
          all_goals try dsimp only
          · exact ⟨by omega, by omega⟩
          · omega
    obtain rfl : j = ps.length := by omega
    rw [List.drop_length, List.take_length]
    repeat (first
      | (show _ ∧ _; exact ⟨rfl, rfl, rfl⟩)
      | refine wkP ?_
      | (show OpOk _ _ _ _ _ _ _; first | refine opB (fun b => ?_) | refine opA (fun a' c' hc1 hc2 => ?_))
      | (show GJ _ _ _ _ _ _ _; first | (apply GJ.and; exact rfl; intro hg) | (apply GJ.or; exact rfl; intro hg)))
    have hin := pairs_in zeroS_in ps
    generalize pairsD zeroS ps = Z at hk hin ⊢
    refine LoopOk.at (ι := Nat × SetD) Keep.auto (fun (i, u) => [(9, .int .i64 (i : Int))]) (fun (i, u) => .blk b 55 (setV u) :: .blk b2 55 (setV zeroS) :: own) (fun (i, u) => i ≤ 4 ∧ ∀ k, k < 4 → u.w k = if k < i then Z.not.w k else Z.w k) (fun (i, u) => 4 - i) (0, Z) ?_ Sub.auto Sup.auto ?_
    · exact ⟨by omega, fun k hk => by rw [if_neg (by omega)]⟩
    rintro ⟨i, u⟩ ⟨i1, i2⟩
    dsimp only [List.cons_append, List.nil_append] at i1 i2 ⊢
    repeat (first
      | (show _ ∧ _; exact ⟨rfl, rfl, rfl⟩)
      | refine wkP ?_
      | (show OpOk _ _ _ _ _ _ _; first | refine opB (fun b => ?_) | refine opA (fun a' c' hc1 hc2 => ?_))
      | (show GJ _ _ _ _ _ _ _; first | (apply GJ.and; exact rfl; intro hg) | (apply GJ.or; exact rfl; intro hg)))
    refine Br.cases (fun hg => ?_) (fun hg => ?_)
    · have h1 := hin i
      have h3 := i2 i (by omega)
      rw [if_neg (by omega)] at h3
      rw [← h3] at h1
      repeat (first
        | (show _ ∧ _; exact ⟨rfl, rfl, rfl⟩)
        | refine wkP ?_
        | (show OpOk _ _ _ _ _ _ _; first | refine opB (fun b => ?_) | refine opA (fun a' c' hc1 hc2 => ?_))
        | (show GJ _ _ _ _ _ _ _; first | (apply GJ.and; exact rfl; intro hg) | (apply GJ.or; exact rfl; intro hg)))
      refine OpOk.load rfl rfl (Ld.setAt u rfl (k := i) (by omega) (by omega)) ?_
      repeat (first
        | (show _ ∧ _; exact ⟨rfl, rfl, rfl⟩)
        | refine wkP ?_
        | (show OpOk _ _ _ _ _ _ _; first | refine opB (fun b => ?_) | refine opA (fun a' c' hc1 hc2 => ?_))
        | (show GJ _ _ _ _ _ _ _; first | (apply GJ.and; exact rfl; intro hg) | (apply GJ.or; exact rfl; intro hg)))
      refine OpOk.xor64 (n := u.w i) rfl h1 ?_
      repeat (first
        | (show _ ∧ _; exact ⟨rfl, rfl, rfl⟩)
        | refine wkP ?_
        | (show OpOk _ _ _ _ _ _ _; first | refine opB (fun b => ?_) | refine opA (fun a' c' hc1 hc2 => ?_))
        | (show GJ _ _ _ _ _ _ _; first | (apply GJ.and; exact rfl; intro hg) | (apply GJ.or; exact rfl; intro hg)))
      refine storeSet (k := i) (w := 18446744073709551615 - u.w i) u rfl rfl rfl rfl rfl (by omega) (by omega) ?_
      repeat (first
        | (show _ ∧ _; exact ⟨rfl, rfl, rfl⟩)
        | refine wkP ?_
        | (show OpOk _ _ _ _ _ _ _; first | refine opB (fun b => ?_) | refine opA (fun a' c' hc1 hc2 => ?_))
        | (show GJ _ _ _ _ _ _ _; first | (apply GJ.and; exact rfl; intro hg) | (apply GJ.or; exact rfl; intro hg)))
      refine Wk.id ⟨(i + 1, u.put i (18446744073709551615 - u.w i)), ⟨rfl, ?_⟩, ?_, Sub.auto, Sup.auto⟩
      all_goals try dsimp only
      · refine ⟨by omega, fun k hk => ?_⟩
        rw [SetD.w_put (by omega) hk]
        by_cases hki : k = i
        · subst hki; rw [if_pos rfl, if_pos (by omega), i2 k hk, if_neg (by omega), SetD.w_not]
        · rw [if_neg hki, i2 k hk]
          by_cases hlt : k < i
          · rw [if_pos hlt, if_pos (by omega)]
          · rw [if_neg hlt, if_neg (by omega)]
      · omega
    · obtain rfl : u = Z.not := SetD.ext4 (fun k hk => by rw [i2 k hk, if_pos (by omega)])
      repeat (first
        | (show _ ∧ _; exact ⟨rfl, rfl, rfl⟩)
        | refine wkP ?_
        | (show OpOk _ _ _ _ _ _ _; first | refine opB (fun b => ?_) | refine opA (fun a' c' hc1 hc2 => ?_))
        | (show GJ _ _ _ _ _ _ _; first | (apply GJ.and; exact rfl; intro hg) | (apply GJ.or; exact rfl; intro hg)))
      exact Wk.outS Sup.auto (.refl _) hk
end
end Go.Proofs.YtniofdklhlbphaaDoor
