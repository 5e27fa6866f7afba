/- Contracts of the reference parser: Parse. -/
import Derived.Test.YtniofdklhlbphaaDoorRfE
namespace Go.Proofs.YtniofdklhlbphaaDoor
open Go Go.E
set_option linter.unusedVariables false
set_option linter.unusedSimpArgs false
set_option maxRecDepth 10000
theorem DCat.sk {A : List UInt8 → RgD → Prop} (hA : ∀ l n, A l n → SkS (· ≠ 41) l) {l : List UInt8} {n : RgD} (h : DCat A l n) : SkS (· ≠ 124) l := by
  obtain ⟨ns, h1, _⟩ := h
  exact (h1.sk hA).weak fun x hx => hx.2
/-- Texts in cells. -/
abbrev strsV (l : List (List UInt8)) : List Value := l.map str
theorem strs_snoc (l : List (List UInt8)) (x : List UInt8) : strsV (l ++ [x]) = strsV l ++ [str x] := by simp [strsV]
theorem bars_len : ∀ (L : List (List UInt8)) (j : Nat), j < L.length → offB L j ≤ (barsOf L).length
  | [], j, h => absurd h (by simp)
  | l :: r, 0, h => Nat.zero_le _
  | [l], j + 1, h => absurd h (by simp)
  | l :: m :: r, j + 1, h => by
    have e : offB (l :: m :: r) (j + 1) = l.length + (1 + offB (m :: r) j) := by unfold offB; simp; omega
    have := bars_len (m :: r) j (by simpa using h)
    rw [e, bars_cons, List.length_append, List.length_cons]; omega
theorem off_ge {L : List (List UInt8)} : ∀ (j : Nat), j ≤ L.length → j ≤ offB L j
  | 0, _ => Nat.zero_le _
  | j + 1, h => by
    have := off_ge (L := L) j (by omega)
    have := off_succ (List.getElem?_eq_getElem (show j < L.length by omega))
    omega
section
variable {ro : Ro} {own r : Chs} {K : Value → Ro → Chs → Prop} {g : Chunk → Chs}
set_option maxHeartbeats 8000000 in
theorem rfparse_ok {d : Nat} (hP : RefP d) : RefP (d + 1) := by
  intro l n h hl ro own K hk
  obtain ⟨ns, hcs, rfl⟩ := h
  obtain ⟨ps, hp0, rfl, rfl, hpp⟩ := hcs.form
  obtain ⟨L, hL⟩ : ∃ L : List (List UInt8), L = ps.map (·.1) := ⟨_, rfl⟩
  have hLl : L.length = ps.length := by rw [hL, List.length_map]
  have hsk : ∀ (j : Nat) (x : List UInt8), L[j]? = some x → SkS (· ≠ 124) x := fun j x hx => by
    rw [hL, List.getElem?_map] at hx
    obtain ⟨p, hp, rfl⟩ := Option.map_eq_some_iff.1 hx
    exact (hpp p (List.mem_of_getElem? hp)).sk (alt_sk d)
  have hL0 : 0 < L.length := by rw [hLl]; exact List.length_pos_iff.2 hp0
  rw [← hL] at hl ⊢
  obtain ⟨tx, hT⟩ : ∃ tx, tx = barsOf L := ⟨_, rfl⟩
  rw [← hT] at hl ⊢
  refine CallOk.intro (args := [_]) (rs := [_]) T_ok Tryd.func30 Tryd.call30 rfl rfl (by kernel_rfl) rfl rfl ?_
  repeat (first
    | (show _ ∧ _; exact ⟨rfl, rfl, rfl⟩)
    | refine wkP ?_
    | (show OpOk _ _ _ _ _ _ _; first | refine opB (fun b => ?_) | refine opA (fun a' c' hc1 hc2 => ?_))
    | (show GJ _ _ _ _ _ _ _; first | (apply GJ.and; exact rfl; intro hg) | (apply GJ.or; exact rfl; intro hg)))
  obtain ⟨b4, hb4⟩ : ∃ z : Nat, z = b := ⟨_, rfl⟩
  subst hb4
  obtain ⟨q0, e0, s0, t0⟩ := hsk 0 L[0] (List.getElem?_eq_getElem hL0)
  refine LoopOk.at (ι := Nat × Int × Int × List UInt8 × List (List UInt8) × Option Addr × Nat) Keep.auto (fun (j, fr, i, dn, qs, ad, cp) => [(3, .slice ad j cp), (4, .int .i64 fr), (5, .int .i64 i)]) (fun (j, fr, i, dn, qs, ad, cp) => .sl ad j cp 9 1 (strsV (L.take j)) :: .blk b4 58 (nodeV 0 zeroS none 0 0 0 0) :: own) (fun (j, fr, i, dn, qs, ad, cp) => L[j]? = some (dn ++ qs.flatten) ∧ i = (offB L j : Int) + dn.length ∧ (∀ q ∈ qs, Sk q) ∧ (∀ q ∈ qs, ∃ x m, q = x :: m ∧ x ≠ 124) ∧ j ≤ cp ∧ cp ≤ maxLen ∧ fr = (offB L j : Int)) (fun (j, fr, i, dn, qs, ad, cp) => tx.length - i.toNat) (0, 0, 0, [], q0, none, 0) ?_ Sub.auto Sup.auto ?_
  · exact ⟨by rw [List.getElem?_eq_getElem hL0, e0]; rfl, rfl, s0, t0, Nat.zero_le _, Nat.zero_le _, rfl⟩
  rintro ⟨j, fr, i, dn, qs, ad, cp⟩ ⟨i1, i2, i3, i4, i5, i6, i7⟩
  dsimp only [List.cons_append, List.nil_append] at i1 i2 i3 i4 i5 i6 i7 ⊢
  obtain ⟨hj, _⟩ := List.getElem?_eq_some_iff.1 i1
  have hat := bars_at i1
  rw [← hT] at hat
  have hlat := congrArg List.length hat
  rw [List.length_drop, List.length_append, List.length_append] at hlat
  have hoff : offB L j ≤ tx.length := by rw [hT]; exact bars_len L j hj
  have hoj := off_ge (L := L) j (by omega)
  cases qs with
  | cons q qs =>
    obtain ⟨x, m, hq, hx⟩ := i4 q (by simp)
    have hx := u8_ne hx
    have hD : tx.drop i.toNat = q ++ (qs.flatten ++ tailB (L.drop (j + 1))) := by
      rw [show i.toNat = offB L j + dn.length by omega, ← List.drop_drop, hat, List.append_assoc, List.drop_left]; simp
    have hDl := congrArg List.length hD
    rw [List.length_drop, List.length_append] at hDl
    have hql : 0 < q.length := by rw [hq]; simp
    obtain ⟨g1, g2⟩ := get_drop (by rw [hD, hq]; rfl : tx.drop i.toNat = x :: (m ++ (qs.flatten ++ tailB (L.drop (j + 1)))))
    have hx : x.toNat ≠ 124 := hx
    repeat (first
      | (show _ ∧ _; exact ⟨rfl, rfl, rfl⟩)
      | refine wkP ?_
      | (show OpOk _ _ _ _ _ _ _; first | refine opB (fun b => ?_) | refine opA (fun a' c' hc1 hc2 => ?_))
      | (show GJ _ _ _ _ _ _ _; first | (apply GJ.and; exact rfl; intro hg) | (apply GJ.or; exact rfl; intro hg)))
    rw [g2]
    repeat (first
      | (show _ ∧ _; exact ⟨rfl, rfl, rfl⟩)
      | refine wkP ?_
      | (show OpOk _ _ _ _ _ _ _; first | refine opB (fun b => ?_) | refine opA (fun a' c' hc1 hc2 => ?_))
      | (show GJ _ _ _ _ _ _ _; first | (apply GJ.and; exact rfl; intro hg) | (apply GJ.or; exact rfl; intro hg)))
    rw [hD]
    refine skip_ok (i3 q (by simp)) _ _ _ _ (by omega) ?_
    repeat (first
      | (show _ ∧ _; exact ⟨rfl, rfl, rfl⟩)
      | refine wkP ?_
      | (show OpOk _ _ _ _ _ _ _; first | refine opB (fun b => ?_) | refine opA (fun a' c' hc1 hc2 => ?_))
      | (show GJ _ _ _ _ _ _ _; first | (apply GJ.and; exact rfl; intro hg) | (apply GJ.or; exact rfl; intro hg)))
    refine Wk.id ⟨(j, fr, i + (q.length : Int), dn ++ q, qs, ad, cp), ⟨rfl, ?_⟩, ?_, Sub.auto, Sup.auto⟩
    all_goals try dsimp only
    · exact ⟨by rw [i1]; simp, by rw [List.length_append]; omega, fun p hp => i3 p (by simp [hp]), fun p hp => i4 p (by simp [hp]), i5, i6, i7⟩
    · omega
  | nil =>
    rw [List.flatten_nil, List.append_nil] at i1 hat
    rw [List.flatten_nil, List.length_nil, Nat.add_zero] at hlat
    have hcut : List.take (i.toNat - fr.toNat) (List.drop fr.toNat tx) = dn := by
      rw [show fr.toNat = offB L j by omega, hat, show i.toNat - offB L j = dn.length by omega, List.take_left]
    by_cases hj2 : j + 1 < L.length
    · rw [tail_some hj2] at hat hlat
      rw [List.length_cons] at hlat
      have hD : tx.drop i.toNat = [124] ++ barsOf (L.drop (j + 1)) := by
        rw [show i.toNat = offB L j + dn.length by omega, ← List.drop_drop, hat, List.drop_left]; rfl
      obtain ⟨g1, g2⟩ := get_drop (by rw [hD]; rfl : tx.drop i.toNat = 124 :: barsOf (L.drop (j + 1)))
      obtain ⟨q1, e1, s1, t1⟩ := hsk (j + 1) L[j + 1] (List.getElem?_eq_getElem hj2)
      have hos := off_succ i1
      have htk : strsV (L.take (j + 1)) = strsV (L.take j) ++ [str dn] := by rw [List.take_add_one, i1]; exact strs_snoc _ _
      repeat (first
        | (show _ ∧ _; exact ⟨rfl, rfl, rfl⟩)
        | refine wkP ?_
        | (show OpOk _ _ _ _ _ _ _; first | refine opB (fun b => ?_) | refine opA (fun a' c' hc1 hc2 => ?_))
        | (show GJ _ _ _ _ _ _ _; first | (apply GJ.and; exact rfl; intro hg) | (apply GJ.or; exact rfl; intro hg)))
      rw [g2]
      repeat (first
        | (show _ ∧ _; exact ⟨rfl, rfl, rfl⟩)
        | refine wkP ?_
        | (show OpOk _ _ _ _ _ _ _; first | refine opB (fun b => ?_) | refine opA (fun a' c' hc1 hc2 => ?_))
        | (show GJ _ _ _ _ _ _ _; first | (apply GJ.and; exact rfl; intro hg) | (apply GJ.or; exact rfl; intro hg)))
      rw [hcut]
      repeat (first
        | (show _ ∧ _; exact ⟨rfl, rfl, rfl⟩)
        | refine wkP ?_
        | (show OpOk _ _ _ _ _ _ _; first | refine opB (fun b => ?_) | refine opA (fun a' c' hc1 hc2 => ?_))
        | (show GJ _ _ _ _ _ _ _; first | (apply GJ.and; exact rfl; intro hg) | (apply GJ.or; exact rfl; intro hg)))
      rw [hD]
      refine skip_ok (.one (by decide)) _ _ _ _ (by simp; omega) ?_
      rw [show (([124] : List UInt8).length : Int) = 1 from rfl]
      repeat (first
        | (show _ ∧ _; exact ⟨rfl, rfl, rfl⟩)
        | refine wkP ?_
        | (show OpOk _ _ _ _ _ _ _; first | refine opB (fun b => ?_) | refine opA (fun a' c' hc1 hc2 => ?_))
        | (show GJ _ _ _ _ _ _ _; first | (apply GJ.and; exact rfl; intro hg) | (apply GJ.or; exact rfl; intro hg)))
      rw [← htk]
      refine Wk.id ⟨(j + 1, i + 1, i + 1, [], q1, a', c'), ⟨rfl, ?_⟩, ?_, Sub.auto, Sup.auto⟩
      all_goals try dsimp only
      · exact ⟨by rw [List.getElem?_eq_getElem hj2, e1]; rfl, by rw [List.length_nil]; omega, s1, t1, by omega, by omega, by omega⟩
      · omega
    · have hjL : L.length = j + 1 := by omega
      rw [tail_none (by omega)] at hat hlat
      rw [List.append_nil] at hat
      rw [List.length_nil] at hlat
      have hcut2 : List.drop fr.toNat tx = dn := by rw [show fr.toNat = offB L j by omega]; exact hat
      have htk : strsV L = strsV (L.take j) ++ [str dn] := by
        have h : L.take (j + 1) = L := List.take_of_length_le (by omega)
        rw [← strs_snoc]
        rw [List.take_add_one, i1] at h
        exact congrArg strsV h.symm
      by_cases hj0 : j = 0
      · subst hj0
        obtain ⟨p, rfl⟩ := List.length_eq_one_iff.1 (show ps.length = 1 by omega)
        have htx : tx = p.1 := by rw [hT, hL]; rfl
        repeat (first
          | (show _ ∧ _; exact ⟨rfl, rfl, rfl⟩)
          | refine wkP ?_
          | (show OpOk _ _ _ _ _ _ _; first | refine opB (fun b => ?_) | refine opA (fun a' c' hc1 hc2 => ?_))
          | (show GJ _ _ _ _ _ _ _; first | (apply GJ.and; exact rfl; intro hg) | (apply GJ.or; exact rfl; intro hg)))
        rw [htx]
        refine rcat_ok hP (hpp p (by simp)) (by rw [← htx]; omega) (fun ro1 v hl1 hv => ?_)
        obtain ⟨a1, c1, hvc⟩ := hv.cells
        subst hvc
        repeat (first
          | (show _ ∧ _; exact ⟨rfl, rfl, rfl⟩)
          | refine wkP ?_
          | (show OpOk _ _ _ _ _ _ _; first | refine opB (fun b => ?_) | refine opA (fun a' c' hc1 hc2 => ?_))
          | (show GJ _ _ _ _ _ _ _; first | (apply GJ.and; exact rfl; intro hg) | (apply GJ.or; exact rfl; intro hg)))
        exact Wk.outS Sup.auto (.refl _) (hk ro1 _ hl1 hv)
      · repeat (first
          | (show _ ∧ _; exact ⟨rfl, rfl, rfl⟩)
          | refine wkP ?_
          | (show OpOk _ _ _ _ _ _ _; first | refine opB (fun b => ?_) | refine opA (fun a' c' hc1 hc2 => ?_))
          | (show GJ _ _ _ _ _ _ _; first | (apply GJ.and; exact rfl; intro hg) | (apply GJ.or; exact rfl; intro hg)))
        rw [hcut2]
        repeat (first
          | (show _ ∧ _; exact ⟨rfl, rfl, rfl⟩)
          | refine wkP ?_
          | (show OpOk _ _ _ _ _ _ _; first | refine opB (fun b => ?_) | refine opA (fun a' c' hc1 hc2 => ?_))
          | (show GJ _ _ _ _ _ _ _; first | (apply GJ.and; exact rfl; intro hg) | (apply GJ.or; exact rfl; intro hg)))
        rw [← htk]
        obtain ⟨b6, hb6⟩ : ∃ z : Nat, z = b := ⟨_, rfl⟩
        subst hb6
        refine LoopOk.auto (ι := Nat × List Value × Option Addr × Nat) Keep.auto (fun (k, cs, a2, c2) => [(7, .int .i64 (k : Int))]) (fun (k, cs, a2, c2) => .sl a2 k c2 58 8 cs :: .blk b6 58 (nodeV 4 zeroS a2 k c2 0 0) :: .sl a' (j + 1) c' 9 1 (strsV L) :: .blk b4 58 (nodeV 0 zeroS none 0 0 0 0) :: own) (fun (k, cs, a2, c2) ro2 => RgsOk ro2 ((ps.take k).map (·.2)) cs ∧ k ≤ ps.length ∧ k ≤ c2 ∧ c2 ≤ maxLen) (fun (k, cs, a2, c2) => ps.length - k) (0, [], none, 0) ?_ Sub.auto Sup.auto ?_
        · exact ⟨by rw [List.take_zero, List.map_nil, RgsOk], Nat.zero_le _, Nat.zero_le _, Nat.zero_le _⟩
        rintro ⟨k, cs, a2, c2⟩ ro2 hl2 ⟨k1, k2, k3, k4⟩
        dsimp only [List.cons_append, List.nil_append] at k1 k2 k3 k4 ⊢
        have hLc : cs.length = k * 8 := by have := k1.len; rw [List.length_map, List.length_take, Nat.min_eq_left k2] at this; exact this
        by_cases hk1 : k < ps.length
        · obtain ⟨p, hp, hd⟩ := drop_get hk1
          have hpc := hpp p (List.mem_of_getElem? hp)
          have hLk : L[(k : Int).toNat]! = p.1 := by
            rw [Int.toNat_natCast, getElem!_def, hL, List.getElem?_map, hp]; rfl
          have hpl : p.1.length ≤ 850 := by
            have h1 := congrArg List.length (bars_at (L := L) (j := k) (l := p.1) (by rw [hL, List.getElem?_map, hp]; rfl))
            rw [List.length_drop, List.length_append, ← hT] at h1
            omega
          have htk2 : (ps.take (k + 1)).map (·.2) = (ps.take k).map (·.2) ++ [p.2] := by rw [List.take_add_one, hp]; simp
          repeat (first
            | (show _ ∧ _; exact ⟨rfl, rfl, rfl⟩)
            | refine wkP ?_
            | (show OpOk _ _ _ _ _ _ _; first | refine opB (fun b => ?_) | refine opA (fun a' c' hc1 hc2 => ?_))
            | (show GJ _ _ _ _ _ _ _; first | (apply GJ.and; exact rfl; intro hg) | (apply GJ.or; exact rfl; intro hg)))
          rw [hLk]
          refine rcat_ok hP hpc hpl (fun ro3 v hl3 hv => ?_)
          obtain ⟨a1, c1, hvc⟩ := hv.cells
          subst hvc
          repeat (first
            | (show _ ∧ _; exact ⟨rfl, rfl, rfl⟩)
            | refine wkP ?_
            | (show OpOk _ _ _ _ _ _ _; first | refine opB (fun b => ?_) | refine opA (fun a' c' hc1 hc2 => ?_))
            | (show GJ _ _ _ _ _ _ _; first | (apply GJ.and; exact rfl; intro hg) | (apply GJ.or; exact rfl; intro hg)))
          refine Wk.id ⟨(k + 1, cs ++ nodeV p.2.kind p.2.set a1 p.2.kids.length c1 p.2.min p.2.max, a', c'), ?_, ?_, Sub.auto, Sup.auto⟩
          all_goals try dsimp only
          · rw [htk2]
            exact ⟨RgsOk.snoc hv (k1.le hl3), by omega, hc1, hc2⟩
          · omega
        · obtain rfl : k = ps.length := by omega
          rw [List.take_length] at k1
          repeat (first
            | (show _ ∧ _; exact ⟨rfl, rfl, rfl⟩)
            | refine wkP ?_
            | (show OpOk _ _ _ _ _ _ _; first | refine opB (fun b => ?_) | refine opA (fun a' c' hc1 hc2 => ?_))
            | (show GJ _ _ _ _ _ _ _; first | (apply GJ.and; exact rfl; intro hg) | (apply GJ.or; exact rfl; intro hg)))
          refine Wk.freeze (c := .sl a2 _ _ _ _ _) Take.auto (fun ro3 hl3 hc3 => ?_)
          have hal : altN' (ps.map (·.2)) = altD' (ps.map (·.2)) := by
            rcases ps with _ | ⟨x1, _ | ⟨y1, l1⟩⟩
            · rfl
            · rw [hL] at hjL; simp at hjL; omega
            · rfl
          have hw : RgOk ro3 (altD' (ps.map (·.2))) (nodeV 4 zeroS a2 ps.length c2 0 0) := by
            have := RgOk.many (k := 4) (a := a2) (c := c2) (k1.le hl3) (by rw [List.length_map]; exact Rs.last hc3)
            rw [List.length_map] at this
            exact this
          rw [hal] at hk
          exact Wk.outS Sup.auto (.refl _) (hk ro3 _ (hl2.trans hl3) hw)
end
end Go.Proofs.YtniofdklhlbphaaDoor
