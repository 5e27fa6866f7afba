/- Contracts of the reference parser: cat. -/
import Derived.Test.YtniofdklhlbphaaDoorRfD
namespace Go.Proofs.YtniofdklhlbphaaDoor
open Go Go.E
set_option linter.unusedVariables false
set_option linter.unusedSimpArgs false
set_option maxRecDepth 10000
theorem DPiece.ne {A : List UInt8 → RgD → Prop} {l : List UInt8} {n : RgD} (h : DPiece A l n) : l ≠ [] := by
  obtain ⟨x, m, e, _⟩ := h.head; rw [e]; exact List.cons_ne_nil _ _
theorem pieces_next {A : List UInt8 → RgD → Prop} {ps : List (List UInt8 × RgD)} (h : ∀ p ∈ ps, DPiece A p.1 p.2) : NoCount (textsOf ps) := by
  cases ps with
  | nil => exact .inl rfl
  | cons p ps =>
    obtain ⟨x, m, e, hx⟩ := (h p (by simp)).head
    exact .inr ⟨x, m ++ textsOf ps, by rw [texts_cons, e]; rfl, hx⟩
theorem reps_take {n0 : RgD} {rs : List (List UInt8 × Int × Int)} {i : Nat} {r : List UInt8 × Int × Int} (h : rs[i]? = some r) : repsD n0 (rs.take (i + 1)) = repD (repsD n0 (rs.take i)) r.2.1 r.2.2 := by
  rw [List.take_add_one, h]; exact reps_snoc _ _ _
section
variable {ro : Ro} {own r : Chs} {K : Value → Ro → Chs → Prop} {g : Chunk → Chs}
set_option maxHeartbeats 8000000 in
theorem rcat_ok {d : Nat} (hP : RefP d) {l : List UInt8} {n : RgD} (h : DCat (DAlt d) l n) (hl : l.length ≤ 850) (hk : ∀ ro' v, Le ro ro' → RgOk ro' n v → K (.agg v.toArray) ro' own) :
    CallOk Tryd.prog 56 #[str l] ro own K := by
  obtain ⟨ns, hps, rfl⟩ := h
  obtain ⟨ps, rfl, rfl, hpp⟩ := hps.form
  have hcnt := texts_count ps (fun p hp => (hpp p hp).ne)
  refine CallOk.intro (args := [_]) (rs := [_]) T_ok Tryd.func56 Tryd.call56 rfl rfl (by kernel_rfl) rfl rfl ?_
  repeat (first
    | (show _ ∧ _; exact ⟨rfl, rfl, rfl⟩)
    | refine wkP ?_
    | (show OpOk _ _ _ _ _ _ _; first | refine opB (fun b => ?_) | refine opA (fun a' c' hc1 hc2 => ?_))
    | (show GJ _ _ _ _ _ _ _; first | (apply GJ.and; exact rfl; intro hg) | (apply GJ.or; exact rfl; intro hg)))
  obtain ⟨b4, hb4⟩ : ∃ z : Nat, z = b := ⟨_, rfl⟩
  subst hb4
  refine LoopOk.auto (ι := Nat × List Value × Option Addr × Nat) Keep.auto (fun (j, cs, ad, cp) => [(0, str (textsOf (ps.drop j))), (3, .slice ad j cp)]) (fun (j, cs, ad, cp) => .sl ad j cp 58 8 cs :: .blk b4 58 (nodeV 0 zeroS none 0 0 0 0) :: own) (fun (j, cs, ad, cp) ro2 => RgsOk ro2 ((ps.take j).map (·.2)) cs ∧ j ≤ ps.length ∧ (textsOf (ps.drop j)).length ≤ 850 ∧ j ≤ cp ∧ cp ≤ maxLen) (fun (j, cs, ad, cp) => ps.length - j) (0, [], none, 0) ?_ Sub.auto Sup.auto ?_
  · exact ⟨by rw [List.take_zero, List.map_nil, RgsOk], Nat.zero_le _, hl, Nat.zero_le _, Nat.zero_le _⟩
  rintro ⟨j, cs, ad, cp⟩ ro2 hl2 ⟨i1, i2, i3, i4, i5⟩
  dsimp only [List.cons_append, List.nil_append] at i1 i2 i3 i4 i5 ⊢
  have hL : cs.length = j * 8 := by have := i1.len; rw [List.length_map, List.length_take, Nat.min_eq_left i2] at this; exact this
  by_cases hj : j < ps.length
  · obtain ⟨⟨pt, n⟩, hp, hd⟩ := drop_get hj
    have hpc := hpp _ (List.mem_of_getElem? hp)
    have hnc : NoCount (textsOf (ps.drop (j + 1))) := pieces_next (fun q hq => hpp q (List.mem_of_mem_drop hq))
    have htk : (ps.take (j + 1)).map (·.2) = (ps.take j).map (·.2) ++ [n] := by rw [List.take_add_one, hp]; simp
    rw [hd, texts_cons] at i3 ⊢
    obtain ⟨R, hR⟩ : ∃ R, R = textsOf (ps.drop (j + 1)) := ⟨_, rfl⟩
    rw [← hR] at hnc i3 ⊢
    dsimp only at hpc i3 ⊢
    obtain ⟨a, n0, rs, hat, rfl, hrs, rfl⟩ := hpc.form
    obtain ⟨hsk, x, m, ha0, _⟩ := hat.sk (alt_sk d)
    have hal : 0 < a.length := by rw [ha0]; simp
    rw [List.append_assoc] at i3 ⊢
    obtain ⟨Q, hQ⟩ : ∃ Q, Q = textsOf rs ++ R := ⟨_, rfl⟩
    have hQl : Q.length = (textsOf rs).length + R.length := by rw [hQ, List.length_append]
    have hal2 : (a ++ Q).length = a.length + Q.length := List.length_append
    rw [← hQ] at i3 ⊢
    repeat (first
      | (show _ ∧ _; exact ⟨rfl, rfl, rfl⟩)
      | refine wkP ?_
      | (show OpOk _ _ _ _ _ _ _; first | refine opB (fun b => ?_) | refine opA (fun a' c' hc1 hc2 => ?_))
      | (show GJ _ _ _ _ _ _ _; first | (apply GJ.and; exact rfl; intro hg) | (apply GJ.or; exact rfl; intro hg)))
    refine skip_ok hsk Q _ _ _ (by omega) ?_
    repeat (first
      | (show _ ∧ _; exact ⟨rfl, rfl, rfl⟩)
      | refine wkP ?_
      | (show OpOk _ _ _ _ _ _ _; first | refine opB (fun b => ?_) | refine opA (fun a' c' hc1 hc2 => ?_))
      | (show GJ _ _ _ _ _ _ _; first | (apply GJ.and; exact rfl; intro hg) | (apply GJ.or; exact rfl; intro hg)))
    rw [show ((a.length : Nat) : Int).toNat = a.length from rfl, List.take_left]
    repeat (first
      | (show _ ∧ _; exact ⟨rfl, rfl, rfl⟩)
      | refine wkP ?_
      | (show OpOk _ _ _ _ _ _ _; first | refine opB (fun b => ?_) | refine opA (fun a' c' hc1 hc2 => ?_))
      | (show GJ _ _ _ _ _ _ _; first | (apply GJ.and; exact rfl; intro hg) | (apply GJ.or; exact rfl; intro hg)))
    refine piece_ok hP hat (by omega) (fun ro1 v hl1 hv => ?_)
    obtain ⟨a1, c1, hvc⟩ := hv.cells
    obtain ⟨V, hV⟩ : ∃ V, V = v := ⟨_, rfl⟩
    rw [← hV] at hv
    subst hvc
    repeat (first
      | (show _ ∧ _; exact ⟨rfl, rfl, rfl⟩)
      | refine wkP ?_
      | (show OpOk _ _ _ _ _ _ _; first | refine opB (fun b => ?_) | refine opA (fun a' c' hc1 hc2 => ?_))
      | (show GJ _ _ _ _ _ _ _; first | (apply GJ.and; exact rfl; intro hg) | (apply GJ.or; exact rfl; intro hg)))
    rw [show ((a.length : Nat) : Int).toNat = a.length from rfl, List.drop_left, hQ]
    repeat (first
      | (show _ ∧ _; exact ⟨rfl, rfl, rfl⟩)
      | refine wkP ?_
      | (show OpOk _ _ _ _ _ _ _; first | refine opB (fun b => ?_) | refine opA (fun a' c' hc1 hc2 => ?_))
      | (show GJ _ _ _ _ _ _ _; first | (apply GJ.and; exact rfl; intro hg) | (apply GJ.or; exact rfl; intro hg)))
    rw [← hV]
    obtain ⟨b5, hb5⟩ : ∃ z : Nat, z = b := ⟨_, rfl⟩
    subst hb5
    refine LoopOk.auto (ι := Nat × List Value) Keep.auto (fun (i, v) => [(0, str (textsOf (rs.drop i) ++ R))]) (fun (i, v) => .blk b5 58 v :: .sl ad j cp 58 8 cs :: .blk b4 58 (nodeV 0 zeroS none 0 0 0 0) :: own) (fun (i, v) ro3 => RgOk ro3 (repsD n0 (rs.take i)) v ∧ i ≤ rs.length ∧ (textsOf (rs.drop i)).length + R.length ≤ 850) (fun (i, v) => rs.length - i) (0, V) ?_ Sub.auto Sup.auto ?_
    · exact ⟨hv, Nat.zero_le _, by rw [List.drop_zero]; omega⟩
    rintro ⟨i, v⟩ ro3 hl3 ⟨k1, k2, k3⟩
    dsimp only [List.cons_append, List.nil_append] at k1 k2 k3 ⊢
    obtain ⟨a2, c2, hvc⟩ := k1.cells
    subst hvc
    by_cases hi : i < rs.length
    · obtain ⟨⟨w, lo, hi2⟩, hq, hdq⟩ := drop_get hi
      have hrep := hrs _ (List.mem_of_getElem? hq)
      have htq := reps_take (n0 := n0) hq
      rw [hdq, texts_cons] at k3 ⊢
      dsimp only at hrep htq k3 ⊢
      rw [List.append_assoc]
      rw [List.length_append] at k3
      obtain ⟨Q2, hQ2⟩ : ∃ Q2, Q2 = textsOf (rs.drop (i + 1)) ++ R := ⟨_, rfl⟩
      have hQ2l : Q2.length = (textsOf (rs.drop (i + 1))).length + R.length := by rw [hQ2, List.length_append]
      have hwl : (w ++ Q2).length = w.length + Q2.length := List.length_append
      have hw0 := hrep.pos
      rw [← hQ2]
      generalize repsD n0 (rs.take i) = nn at k1 htq ⊢
      repeat (first
        | (show _ ∧ _; exact ⟨rfl, rfl, rfl⟩)
        | refine wkP ?_
        | (show OpOk _ _ _ _ _ _ _; first | refine opB (fun b => ?_) | refine opA (fun a' c' hc1 hc2 => ?_))
        | (show GJ _ _ _ _ _ _ _; first | (apply GJ.and; exact rfl; intro hg) | (apply GJ.or; exact rfl; intro hg)))
      refine counted_rep hrep Q2 (by omega) ?_
      repeat (first
        | (show _ ∧ _; exact ⟨rfl, rfl, rfl⟩)
        | refine wkP ?_
        | (show OpOk _ _ _ _ _ _ _; first | refine opB (fun b => ?_) | refine opA (fun a' c' hc1 hc2 => ?_))
        | (show GJ _ _ _ _ _ _ _; first | (apply GJ.and; exact rfl; intro hg) | (apply GJ.or; exact rfl; intro hg)))
      refine counted_rep hrep Q2 (by omega) ?_
      repeat (first
        | (show _ ∧ _; exact ⟨rfl, rfl, rfl⟩)
        | refine wkP ?_
        | (show OpOk _ _ _ _ _ _ _; first | refine opB (fun b => ?_) | refine opA (fun a' c' hc1 hc2 => ?_))
        | (show GJ _ _ _ _ _ _ _; first | (apply GJ.and; exact rfl; intro hg) | (apply GJ.or; exact rfl; intro hg)))
      rw [show ((w.length : Nat) : Int).toNat = w.length from rfl, List.take_left]
      repeat (first
        | (show _ ∧ _; exact ⟨rfl, rfl, rfl⟩)
        | refine wkP ?_
        | (show OpOk _ _ _ _ _ _ _; first | refine opB (fun b => ?_) | refine opA (fun a' c' hc1 hc2 => ?_))
        | (show GJ _ _ _ _ _ _ _; first | (apply GJ.and; exact rfl; intro hg) | (apply GJ.or; exact rfl; intro hg)))
      refine often_ok hrep (by omega) ?_
      repeat (first
        | (show _ ∧ _; exact ⟨rfl, rfl, rfl⟩)
        | refine wkP ?_
        | (show OpOk _ _ _ _ _ _ _; first | refine opB (fun b => ?_) | refine opA (fun a' c' hc1 hc2 => ?_))
        | (show GJ _ _ _ _ _ _ _; first | (apply GJ.and; exact rfl; intro hg) | (apply GJ.or; exact rfl; intro hg)))
      rw [show ((w.length : Nat) : Int).toNat = w.length from rfl, List.drop_left, hQ2]
      repeat (first
        | (show _ ∧ _; exact ⟨rfl, rfl, rfl⟩)
        | refine wkP ?_
        | (show OpOk _ _ _ _ _ _ _; first | refine opB (fun b => ?_) | refine opA (fun a' c' hc1 hc2 => ?_))
        | (show GJ _ _ _ _ _ _ _; first | (apply GJ.and; exact rfl; intro hg) | (apply GJ.or; exact rfl; intro hg)))
      refine Wk.freeze (c := .sl (some ⟨b, 0, none⟩) _ _ _ _ _) Take.auto (fun ro4 hl4 hc4 => ?_)
      have hv4 : RgOk ro4 nn (nodeV nn.kind nn.set a2 nn.kids.length c2 nn.min nn.max) := k1.le hl4
      have hr4 : Rs ro4 (some ⟨b, 0, none⟩) 1 1 8 (nodeV nn.kind nn.set a2 nn.kids.length c2 nn.min nn.max) := Rs.last hc4
      refine Wk.id ⟨(i + 1, nodeV 5 zeroS (some ⟨b, 0, none⟩) 1 1 lo hi2), ?_, ?_, Sub.auto, Sup.auto⟩
      all_goals try dsimp only
      · rw [htq]
        exact ⟨hv4.rep hr4, by omega, by omega⟩
      · omega
    · obtain rfl : i = rs.length := by omega
      rw [List.drop_length, texts_nil, List.nil_append]
      rw [List.take_length] at k1 ⊢
      generalize repsD n0 rs = nn at k1 htk ⊢
      repeat (first
        | (show _ ∧ _; exact ⟨rfl, rfl, rfl⟩)
        | refine wkP ?_
        | (show OpOk _ _ _ _ _ _ _; first | refine opB (fun b => ?_) | refine opA (fun a' c' hc1 hc2 => ?_))
        | (show GJ _ _ _ _ _ _ _; first | (apply GJ.and; exact rfl; intro hg) | (apply GJ.or; exact rfl; intro hg)))
      refine counted_none hnc (by omega) ?_
      repeat (first
        | (show _ ∧ _; exact ⟨rfl, rfl, rfl⟩)
        | refine wkP ?_
        | (show OpOk _ _ _ _ _ _ _; first | refine opB (fun b => ?_) | refine opA (fun a' c' hc1 hc2 => ?_))
        | (show GJ _ _ _ _ _ _ _; first | (apply GJ.and; exact rfl; intro hg) | (apply GJ.or; exact rfl; intro hg)))
      subst hR
      refine Wk.id ⟨(j + 1, cs ++ nodeV nn.kind nn.set a2 nn.kids.length c2 nn.min nn.max, a', c'), ?_, ?_, Sub.auto, Sup.auto⟩
      all_goals try dsimp only
      · rw [htk]
        exact ⟨RgsOk.snoc k1 ((i1.le hl1).le hl3), by omega, by omega, hc1, hc2⟩
      · omega
  · obtain rfl : j = ps.length := by omega
    rw [List.take_length] at i1
    rw [List.drop_length]
    rcases ps with _ | ⟨x1, _ | ⟨y1, l1⟩⟩
    · repeat (first
        | (show _ ∧ _; exact ⟨rfl, rfl, rfl⟩)
        | refine wkP ?_
        | (show OpOk _ _ _ _ _ _ _; first | refine opB (fun b => ?_) | refine opA (fun a' c' hc1 hc2 => ?_))
        | (show GJ _ _ _ _ _ _ _; first | (apply GJ.and; exact rfl; intro hg) | (apply GJ.or; exact rfl; intro hg)))
      exact Wk.outS Sup.auto (.refl _) (hk ro2 _ hl2 (RgOk.leaf zeroS_in))
    · rw [show ([x1] : List (List UInt8 × RgD)).length = 1 from rfl] at i4 hL ⊢
      have hv := RgsOk.single (n := x1.2) i1
      obtain ⟨a1, c1, hvc⟩ := hv.cells
      subst hvc
      repeat (first
        | (show _ ∧ _; exact ⟨rfl, rfl, rfl⟩)
        | refine wkP ?_
        | (show OpOk _ _ _ _ _ _ _; first | refine opB (fun b => ?_) | refine opA (fun a' c' hc1 hc2 => ?_))
        | (show GJ _ _ _ _ _ _ _; first | (apply GJ.and; exact rfl; intro hg) | (apply GJ.or; exact rfl; intro hg)))
      refine OpOk.loadRow rfl rfl (LdN.slRow (k := 0) (z := 8) (cs := nodeV x1.2.kind x1.2.set a1 x1.2.kids.length c1 x1.2.min x1.2.max) (vs := nodeV x1.2.kind x1.2.set a1 x1.2.kids.length c1 x1.2.min x1.2.max) rfl) rfl ?_
      repeat (first
        | (show _ ∧ _; exact ⟨rfl, rfl, rfl⟩)
        | refine wkP ?_
        | (show OpOk _ _ _ _ _ _ _; first | refine opB (fun b => ?_) | refine opA (fun a' c' hc1 hc2 => ?_))
        | (show GJ _ _ _ _ _ _ _; first | (apply GJ.and; exact rfl; intro hg) | (apply GJ.or; exact rfl; intro hg)))
      exact Wk.outS Sup.auto (.refl _) (hk ro2 _ hl2 hv)
    · have hlen : 2 ≤ (x1 :: y1 :: l1).length := by simp
      have hcat : catN' ((x1 :: y1 :: l1).map (·.2)) = catD' ((x1 :: y1 :: l1).map (·.2)) := rfl
      rw [hcat] at hk
      generalize x1 :: y1 :: l1 = ps at *
      repeat (first
        | (show _ ∧ _; exact ⟨rfl, rfl, rfl⟩)
        | refine wkP ?_
        | (show OpOk _ _ _ _ _ _ _; first | refine opB (fun b => ?_) | refine opA (fun a' c' hc1 hc2 => ?_))
        | (show GJ _ _ _ _ _ _ _; first | (apply GJ.and; exact rfl; intro hg) | (apply GJ.or; exact rfl; intro hg)))
      refine Wk.freeze (c := .sl ad _ _ _ _ _) Take.auto (fun ro3 hl3 hc3 => ?_)
      have hw : RgOk ro3 (catD' (ps.map (·.2))) (nodeV 3 zeroS ad ps.length cp 0 0) := by
        have := RgOk.many (k := 3) (a := ad) (c := cp) (i1.le hl3) (by rw [List.length_map]; exact Rs.last hc3)
        rw [List.length_map] at this
        exact this
      exact Wk.outS Sup.auto (.refl _) (hk ro3 _ (hl2.trans hl3) hw)
end
end Go.Proofs.YtniofdklhlbphaaDoor
