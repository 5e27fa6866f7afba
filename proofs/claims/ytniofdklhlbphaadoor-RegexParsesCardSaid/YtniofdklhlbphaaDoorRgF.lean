/- Contracts of regex: write. -/
import Derived.Test.YtniofdklhlbphaaDoorRgE
namespace Go.Proofs.YtniofdklhlbphaaDoor
open Go Go.E
set_option linter.unusedVariables false
set_option linter.unusedSimpArgs false
set_option maxRecDepth 10000
theorem wrongK_mem : ∀ {l : List RgD} {n : RgD}, wrongK l = 0 → n ∈ l → wrongD n = 0
  | [], n, _, h => by simp at h
  | x :: r, n, hw, h => by
    obtain ⟨h1, h2⟩ := wrongK_cons hw
    rcases List.mem_cons.1 h with rfl | h
    · exact h1
    · exact wrongK_mem h2 h
section
variable {ro : Ro} {own r : Chs} {K : Value → Ro → Chs → Prop} {g : Chunk → Chs} {p c : Nat} {q a : Option Addr} {l : List UInt8} {x : Int}
set_option maxHeartbeats 8000000 in
theorem write_cat {s : SetD} {m y : Int} {ad : Option Addr} {cp : Nat} {ks : List RgD} {cs : List Value} (w : Bool) (ih : ∀ n ∈ ks, WrC n) (hx : x = (if w then 1 else 0)) (hwk : wrongK ks = 0) (ht : TabOk ro) (hrs : Rs ro ad ks.length cp 8 cs) (hks : RgsOk ro ks cs) (hn2 : ks.length ≤ 9223372036854775807)
    (hq : BQ p q) (hc : l.length ≤ c) (hm : c ≤ maxLen) (hl : l.length + (writeC ks).length + (if w then 2 else 0) ≤ 10000000)
    (hk : ∀ q' a' c' l', l' = (if w then l ++ [40] ++ writeC ks ++ [41] else l ++ writeC ks) → BQ p q' → l'.length ≤ c' → c' ≤ maxLen → K (.tuple #[]) ro (.blk p 87 [.pointer q', .slice a' l'.length c'] :: .sl a' l'.length c' 5 1 (l'.map u8) :: r)) :
    CallOk Tryd.prog 57 #[ptr' p, .agg (nodeV 3 s ad ks.length cp m y).toArray, .int .i64 x] ro (.blk p 87 [.pointer q, .slice a l.length c] :: .sl a l.length c 5 1 (l.map u8) :: r) K := by
  cases w with
  | true =>
    have hx : x = 1 := hx
    subst hx
    have hl : l.length + (writeC ks).length + 2 ≤ 10000000 := hl
    have hl2 : (l ++ [40]).length + (writeC ks).length ≤ 10000000 := by simp; omega
    refine CallOk.intro (args := [_, _, _]) (rs := []) T_ok Tryd.func57 Tryd.call57 rfl rfl (by kernel_rfl) rfl rfl ?_
    repeat (first
      | (show _ ∧ _; exact ⟨rfl, rfl, rfl⟩)
      | refine wkP ?_
      | (show OpOk _ _ _ _ _ _ _; first | refine opB (fun b => ?_) | refine opA (fun a' c' hc1 hc2 => ?_))
      | (show GJ _ _ _ _ _ _ _; first | (apply GJ.and; exact rfl; intro hg) | (apply GJ.or; exact rfl; intro hg)))
    refine CallOk.sup (own0 := .blk p 87 [.pointer q, .slice a l.length c] :: .sl a l.length c 5 1 (l.map u8) :: .blk b 58 (nodeV 3 s ad ks.length cp m y) :: r) Sup.auto ?_
    refine wbyteL_ok (u := 40) hq rfl rfl (by omega) (fun a0 c0 k1 k2 => ?_)
    rw [show l.length + 1 = (l ++ [40]).length by simp] at k1 ⊢
    repeat (first
      | (show _ ∧ _; exact ⟨rfl, rfl, rfl⟩)
      | refine wkP ?_
      | (show OpOk _ _ _ _ _ _ _; first | refine opB (fun b => ?_) | refine opA (fun a' c' hc1 hc2 => ?_))
      | (show GJ _ _ _ _ _ _ _; first | (apply GJ.and; exact rfl; intro hg) | (apply GJ.or; exact rfl; intro hg)))
    refine LoopOk.at (ι := Nat × Option Addr × Option Addr × Nat × List UInt8) Keep.auto (fun (i, q1, a1, c1, l1) => [(41, .int .i64 (i : Int))]) (fun (i, q1, a1, c1, l1) => .blk p 87 [.pointer q1, .slice a1 l1.length c1] :: .sl a1 l1.length c1 5 1 (l1.map u8) :: r) (fun (i, q1, a1, c1, l1) => i ≤ ks.length ∧ BQ p q1 ∧ l1 = l ++ [40] ++ writeC (ks.take i) ∧ l1.length ≤ c1 ∧ c1 ≤ maxLen) (fun (i, q1, a1, c1, l1) => ks.length - i) (0, some ⟨p, 0, none⟩, a0, c0, l ++ [40]) ?_ Sub.auto Sup.auto ?_
    · exact ⟨Nat.zero_le _, .inr rfl, by simp [writeC], k1, k2⟩
    rintro ⟨i, q1, a1, c1, l1⟩ ⟨i1, i2, i3, i4, i5⟩
    dsimp only [List.cons_append, List.nil_append] at i1 i2 i3 i4 i5 ⊢
    by_cases hi : i < ks.length
    · obtain ⟨kd, hkd⟩ : ∃ kd, ks[i]? = some kd := ⟨_, List.getElem?_eq_getElem hi⟩
      have hv := hks.get hkd
      obtain ⟨ak, ck, hvk⟩ := hv.cells
      rw [hvk] at hv
      have htk : writeC (ks.take (i + 1)) = writeC (ks.take i) ++ writeD kd true := by
        rw [List.take_add_one, hkd]; show writeC (ks.take i ++ [kd]) = _
        rw [writeC_app, writeC, writeC, List.append_nil]
      have hsum : writeC ks = writeC (ks.take (i + 1)) ++ writeC (ks.drop (i + 1)) := by rw [← writeC_app, List.take_append_drop]
      have hlen : l1.length + (writeD kd true).length ≤ 10000000 := by
        have := congrArg List.length hsum
        rw [htk] at this
        simp only [i3, List.length_append] at this ⊢
        (try simp only [List.length_append] at hl2)
        omega
      repeat (first
        | (show _ ∧ _; exact ⟨rfl, rfl, rfl⟩)
        | refine wkP ?_
        | (show OpOk _ _ _ _ _ _ _; first | refine opB (fun b => ?_) | refine opA (fun a' c' hc1 hc2 => ?_))
        | (show GJ _ _ _ _ _ _ _; first | (apply GJ.and; exact rfl; intro hg) | (apply GJ.or; exact rfl; intro hg)))
      rw [Int.toNat_natCast]
      refine OpOk.loadRow rfl rfl (LdN.at hrs hvk) rfl ?_
      repeat (first
        | (show _ ∧ _; exact ⟨rfl, rfl, rfl⟩)
        | refine wkP ?_
        | (show OpOk _ _ _ _ _ _ _; first | refine opB (fun b => ?_) | refine opA (fun a' c' hc1 hc2 => ?_))
        | (show GJ _ _ _ _ _ _ _; first | (apply GJ.and; exact rfl; intro hg) | (apply GJ.or; exact rfl; intro hg)))
      refine CallOk.sup (own0 := .blk p 87 [.pointer q1, .slice a1 l1.length c1] :: .sl a1 l1.length c1 5 1 (l1.map u8) :: r) Sup.auto ?_
      refine (ih kd (List.mem_of_getElem? hkd)).run true rfl (wrongK_mem hwk (List.mem_of_getElem? hkd)) ht hv i2 i4 i5 hlen (fun q2 a2 c2 g1 g2 g3 => ?_)
      repeat (first
        | (show _ ∧ _; exact ⟨rfl, rfl, rfl⟩)
        | refine wkP ?_
        | (show OpOk _ _ _ _ _ _ _; first | refine opB (fun b => ?_) | refine opA (fun a' c' hc1 hc2 => ?_))
        | (show GJ _ _ _ _ _ _ _; first | (apply GJ.and; exact rfl; intro hg) | (apply GJ.or; exact rfl; intro hg)))
      refine Wk.id ⟨(i + 1, q2, a2, c2, l1 ++ writeD kd true), ⟨rfl, ?_⟩, ?_, Sub.auto, Sup.auto⟩
      all_goals try dsimp only
      · exact ⟨by omega, g1, by rw [htk, i3]; simp, g2, g3⟩
      · omega
    obtain rfl : i = ks.length := by omega
    rw [List.take_length] at i3
    repeat (first
      | (show _ ∧ _; exact ⟨rfl, rfl, rfl⟩)
      | refine wkP ?_
      | (show OpOk _ _ _ _ _ _ _; first | refine opB (fun b => ?_) | refine opA (fun a' c' hc1 hc2 => ?_))
      | (show GJ _ _ _ _ _ _ _; first | (apply GJ.and; exact rfl; intro hg) | (apply GJ.or; exact rfl; intro hg)))
    refine CallOk.sup (own0 := .blk p 87 [.pointer q1, .slice a1 l1.length c1] :: .sl a1 l1.length c1 5 1 (l1.map u8) :: r) Sup.auto ?_
    refine wbyteL_ok (u := 41) i2 rfl rfl (by rw [i3]; simp; simp at hl2; omega) (fun a2 c2 k3 k4 => ?_)
    rw [show l1.length + 1 = (l1 ++ [41]).length by simp] at k3 ⊢
    repeat (first
      | (show _ ∧ _; exact ⟨rfl, rfl, rfl⟩)
      | refine wkP ?_
      | (show OpOk _ _ _ _ _ _ _; first | refine opB (fun b => ?_) | refine opA (fun a' c' hc1 hc2 => ?_))
      | (show GJ _ _ _ _ _ _ _; first | (apply GJ.and; exact rfl; intro hg) | (apply GJ.or; exact rfl; intro hg)))
    exact Wk.outS Sup.auto (.refl _) (hk _ a2 c2 _ (by rw [i3]; rfl) (.inr rfl) k3 k4)
  | false =>
    have hx : x = 0 := hx
    subst hx
    have hl : l.length + (writeC ks).length + 0 ≤ 10000000 := hl
    have hl2 : l.length + (writeC ks).length ≤ 10000000 := by omega
    refine CallOk.intro (args := [_, _, _]) (rs := []) T_ok Tryd.func57 Tryd.call57 rfl rfl (by kernel_rfl) rfl rfl ?_
    repeat (first
      | (show _ ∧ _; exact ⟨rfl, rfl, rfl⟩)
      | refine wkP ?_
      | (show OpOk _ _ _ _ _ _ _; first | refine opB (fun b => ?_) | refine opA (fun a' c' hc1 hc2 => ?_))
      | (show GJ _ _ _ _ _ _ _; first | (apply GJ.and; exact rfl; intro hg) | (apply GJ.or; exact rfl; intro hg)))
    refine LoopOk.at (ι := Nat × Option Addr × Option Addr × Nat × List UInt8) Keep.auto (fun (i, q1, a1, c1, l1) => [(41, .int .i64 (i : Int))]) (fun (i, q1, a1, c1, l1) => .blk p 87 [.pointer q1, .slice a1 l1.length c1] :: .sl a1 l1.length c1 5 1 (l1.map u8) :: r) (fun (i, q1, a1, c1, l1) => i ≤ ks.length ∧ BQ p q1 ∧ l1 = l ++ writeC (ks.take i) ∧ l1.length ≤ c1 ∧ c1 ≤ maxLen) (fun (i, q1, a1, c1, l1) => ks.length - i) (0, q, a, c, l) ?_ Sub.auto Sup.auto ?_
    · exact ⟨Nat.zero_le _, hq, by simp [writeC], hc, hm⟩
    rintro ⟨i, q1, a1, c1, l1⟩ ⟨i1, i2, i3, i4, i5⟩
    dsimp only [List.cons_append, List.nil_append] at i1 i2 i3 i4 i5 ⊢
    by_cases hi : i < ks.length
    · obtain ⟨kd, hkd⟩ : ∃ kd, ks[i]? = some kd := ⟨_, List.getElem?_eq_getElem hi⟩
      have hv := hks.get hkd
      obtain ⟨ak, ck, hvk⟩ := hv.cells
      rw [hvk] at hv
      have htk : writeC (ks.take (i + 1)) = writeC (ks.take i) ++ writeD kd true := by
        rw [List.take_add_one, hkd]; show writeC (ks.take i ++ [kd]) = _
        rw [writeC_app, writeC, writeC, List.append_nil]
      have hsum : writeC ks = writeC (ks.take (i + 1)) ++ writeC (ks.drop (i + 1)) := by rw [← writeC_app, List.take_append_drop]
      have hlen : l1.length + (writeD kd true).length ≤ 10000000 := by
        have := congrArg List.length hsum
        rw [htk] at this
        simp only [i3, List.length_append] at this ⊢
        (try simp only [List.length_append] at hl2)
        omega
      repeat (first
        | (show _ ∧ _; exact ⟨rfl, rfl, rfl⟩)
        | refine wkP ?_
        | (show OpOk _ _ _ _ _ _ _; first | refine opB (fun b => ?_) | refine opA (fun a' c' hc1 hc2 => ?_))
        | (show GJ _ _ _ _ _ _ _; first | (apply GJ.and; exact rfl; intro hg) | (apply GJ.or; exact rfl; intro hg)))
      rw [Int.toNat_natCast]
      refine OpOk.loadRow rfl rfl (LdN.at hrs hvk) rfl ?_
      repeat (first
        | (show _ ∧ _; exact ⟨rfl, rfl, rfl⟩)
        | refine wkP ?_
        | (show OpOk _ _ _ _ _ _ _; first | refine opB (fun b => ?_) | refine opA (fun a' c' hc1 hc2 => ?_))
        | (show GJ _ _ _ _ _ _ _; first | (apply GJ.and; exact rfl; intro hg) | (apply GJ.or; exact rfl; intro hg)))
      refine CallOk.sup (own0 := .blk p 87 [.pointer q1, .slice a1 l1.length c1] :: .sl a1 l1.length c1 5 1 (l1.map u8) :: r) Sup.auto ?_
      refine (ih kd (List.mem_of_getElem? hkd)).run true rfl (wrongK_mem hwk (List.mem_of_getElem? hkd)) ht hv i2 i4 i5 hlen (fun q2 a2 c2 g1 g2 g3 => ?_)
      repeat (first
        | (show _ ∧ _; exact ⟨rfl, rfl, rfl⟩)
        | refine wkP ?_
        | (show OpOk _ _ _ _ _ _ _; first | refine opB (fun b => ?_) | refine opA (fun a' c' hc1 hc2 => ?_))
        | (show GJ _ _ _ _ _ _ _; first | (apply GJ.and; exact rfl; intro hg) | (apply GJ.or; exact rfl; intro hg)))
      refine Wk.id ⟨(i + 1, q2, a2, c2, l1 ++ writeD kd true), ⟨rfl, ?_⟩, ?_, Sub.auto, Sup.auto⟩
      all_goals try dsimp only
      · exact ⟨by omega, g1, by rw [htk, i3]; simp, g2, g3⟩
      · omega
    obtain rfl : i = ks.length := by omega
    rw [List.take_length] at i3
    repeat (first
      | (show _ ∧ _; exact ⟨rfl, rfl, rfl⟩)
      | refine wkP ?_
      | (show OpOk _ _ _ _ _ _ _; first | refine opB (fun b => ?_) | refine opA (fun a' c' hc1 hc2 => ?_))
      | (show GJ _ _ _ _ _ _ _; first | (apply GJ.and; exact rfl; intro hg) | (apply GJ.or; exact rfl; intro hg)))
    exact Wk.outS Sup.auto (.refl _) (hk _ a1 c1 _ (by rw [i3]; rfl) i2 i4 i5)
set_option maxHeartbeats 8000000 in
theorem write_alt {s : SetD} {m y : Int} {ad : Option Addr} {cp : Nat} {ks : List RgD} {cs : List Value} (w : Bool) (ih : ∀ n ∈ ks, WrC n) (hx : x = (if w then 1 else 0)) (hwk : wrongK ks = 0) (ht : TabOk ro) (hrs : Rs ro ad ks.length cp 8 cs) (hks : RgsOk ro ks cs) (hn2 : ks.length ≤ 9223372036854775807)
    (hq : BQ p q) (hc : l.length ≤ c) (hm : c ≤ maxLen) (hl : l.length + (writeA ks true).length + (if w then 2 else 0) ≤ 10000000)
    (hk : ∀ q' a' c' l', l' = (if w then l ++ [40] ++ writeA ks true ++ [41] else l ++ writeA ks true) → BQ p q' → l'.length ≤ c' → c' ≤ maxLen → K (.tuple #[]) ro (.blk p 87 [.pointer q', .slice a' l'.length c'] :: .sl a' l'.length c' 5 1 (l'.map u8) :: r)) :
    CallOk Tryd.prog 57 #[ptr' p, .agg (nodeV 4 s ad ks.length cp m y).toArray, .int .i64 x] ro (.blk p 87 [.pointer q, .slice a l.length c] :: .sl a l.length c 5 1 (l.map u8) :: r) K := by
  cases w with
  | true =>
    have hx : x = 1 := hx
    subst hx
    have hl : l.length + (writeA ks true).length + 2 ≤ 10000000 := hl
    have hl2 : (l ++ [40]).length + (writeA ks true).length ≤ 10000000 := by simp; omega
    refine CallOk.intro (args := [_, _, _]) (rs := []) T_ok Tryd.func57 Tryd.call57 rfl rfl (by kernel_rfl) rfl rfl ?_
    repeat (first
      | (show _ ∧ _; exact ⟨rfl, rfl, rfl⟩)
      | refine wkP ?_
      | (show OpOk _ _ _ _ _ _ _; first | refine opB (fun b => ?_) | refine opA (fun a' c' hc1 hc2 => ?_))
      | (show GJ _ _ _ _ _ _ _; first | (apply GJ.and; exact rfl; intro hg) | (apply GJ.or; exact rfl; intro hg)))
    refine CallOk.sup (own0 := .blk p 87 [.pointer q, .slice a l.length c] :: .sl a l.length c 5 1 (l.map u8) :: .blk b 58 (nodeV 4 s ad ks.length cp m y) :: r) Sup.auto ?_
    refine wbyteL_ok (u := 40) hq rfl rfl (by omega) (fun a0 c0 k1 k2 => ?_)
    rw [show l.length + 1 = (l ++ [40]).length by simp] at k1 ⊢
    repeat (first
      | (show _ ∧ _; exact ⟨rfl, rfl, rfl⟩)
      | refine wkP ?_
      | (show OpOk _ _ _ _ _ _ _; first | refine opB (fun b => ?_) | refine opA (fun a' c' hc1 hc2 => ?_))
      | (show GJ _ _ _ _ _ _ _; first | (apply GJ.and; exact rfl; intro hg) | (apply GJ.or; exact rfl; intro hg)))
    refine LoopOk.at (ι := Nat × Option Addr × Option Addr × Nat × List UInt8) Keep.auto (fun (i, q1, a1, c1, l1) => [(54, .int .i64 (i : Int))]) (fun (i, q1, a1, c1, l1) => .blk p 87 [.pointer q1, .slice a1 l1.length c1] :: .sl a1 l1.length c1 5 1 (l1.map u8) :: r) (fun (i, q1, a1, c1, l1) => i ≤ ks.length ∧ BQ p q1 ∧ l1 = l ++ [40] ++ writeA (ks.take i) true ∧ l1.length ≤ c1 ∧ c1 ≤ maxLen) (fun (i, q1, a1, c1, l1) => ks.length - i) (0, some ⟨p, 0, none⟩, a0, c0, l ++ [40]) ?_ Sub.auto Sup.auto ?_
    · exact ⟨Nat.zero_le _, .inr rfl, by simp [writeA], k1, k2⟩
    rintro ⟨i, q1, a1, c1, l1⟩ ⟨i1, i2, i3, i4, i5⟩
    dsimp only [List.cons_append, List.nil_append] at i1 i2 i3 i4 i5 ⊢
    by_cases hi : i < ks.length
    · obtain ⟨kd, hkd⟩ : ∃ kd, ks[i]? = some kd := ⟨_, List.getElem?_eq_getElem hi⟩
      have hv := hks.get hkd
      obtain ⟨ak, ck, hvk⟩ := hv.cells
      rw [hvk] at hv
      have htk : writeA (ks.take (i + 1)) true = writeA (ks.take i) true ++ ((if i = 0 then [] else [124]) ++ writeD kd (decide (kd.kind = 4))) := by
        rw [List.take_add_one, hkd]; show writeA (ks.take i ++ [kd]) true = _
        rw [writeA_app, writeA, writeA, List.append_nil]
        cases i with
        | zero => simp
        | succ i =>
          have : (ks.take (i + 1)).isEmpty = false := by cases ks with
            | nil => simp at hi
            | cons y ys => rfl
          rw [this]; simp
      have hsum : writeA ks true = writeA (ks.take (i + 1)) true ++ writeA (ks.drop (i + 1)) (true && (ks.take (i + 1)).isEmpty) := by rw [← writeA_app, List.take_append_drop]
      have hlen : l1.length + ((if i = 0 then ([] : List UInt8) else [124]) ++ writeD kd (decide (kd.kind = 4))).length ≤ 10000000 := by
        have := congrArg List.length hsum
        rw [htk] at this
        simp only [i3, List.length_append] at this ⊢
        (try simp only [List.length_append] at hl2)
        omega
      have hwk1 := wrongK_mem hwk (List.mem_of_getElem? hkd)
      have hiz : i = 0 ∨ 0 < i := by omega
      rcases hiz with rfl | hpos
      · rw [if_pos rfl, List.nil_append] at htk hlen
        repeat (first
          | (show _ ∧ _; exact ⟨rfl, rfl, rfl⟩)
          | refine wkP ?_
          | (show OpOk _ _ _ _ _ _ _; first | refine opB (fun b => ?_) | refine opA (fun a' c' hc1 hc2 => ?_))
          | (show GJ _ _ _ _ _ _ _; first | (apply GJ.and; exact rfl; intro hg) | (apply GJ.or; exact rfl; intro hg)))
        rw [Int.toNat_natCast]
        refine OpOk.loadRow rfl rfl (LdN.at hrs hvk) rfl ?_
        by_cases h4 : kd.kind = 4
        · rw [decide_eq_true h4] at htk hlen
          repeat (first
            | (show _ ∧ _; exact ⟨rfl, rfl, rfl⟩)
            | refine wkP ?_
            | (show OpOk _ _ _ _ _ _ _; first | refine opB (fun b => ?_) | refine opA (fun a' c' hc1 hc2 => ?_))
            | (show GJ _ _ _ _ _ _ _; first | (apply GJ.and; exact rfl; intro hg) | (apply GJ.or; exact rfl; intro hg)))
          refine CallOk.sup (own0 := .blk p 87 [.pointer q1, .slice a1 l1.length c1] :: .sl a1 l1.length c1 5 1 (l1.map u8) :: r) Sup.auto ?_
          refine (ih kd (List.mem_of_getElem? hkd)).run true rfl hwk1 ht hv i2 i4 i5 hlen (fun q2 a2 c2 g1 g2 g3 => ?_)
          repeat (first
            | (show _ ∧ _; exact ⟨rfl, rfl, rfl⟩)
            | refine wkP ?_
            | (show OpOk _ _ _ _ _ _ _; first | refine opB (fun b => ?_) | refine opA (fun a' c' hc1 hc2 => ?_))
            | (show GJ _ _ _ _ _ _ _; first | (apply GJ.and; exact rfl; intro hg) | (apply GJ.or; exact rfl; intro hg)))
          refine Wk.id ⟨(1, q2, a2, c2, l1 ++ writeD kd true), ⟨rfl, ?_⟩, ?_, Sub.auto, Sup.auto⟩
          all_goals try dsimp only
          · exact ⟨by omega, g1, by rw [htk, i3]; simp, g2, g3⟩
          · omega
        · rw [decide_eq_false h4] at htk hlen
          repeat (first
            | (show _ ∧ _; exact ⟨rfl, rfl, rfl⟩)
            | refine wkP ?_
            | (show OpOk _ _ _ _ _ _ _; first | refine opB (fun b => ?_) | refine opA (fun a' c' hc1 hc2 => ?_))
            | (show GJ _ _ _ _ _ _ _; first | (apply GJ.and; exact rfl; intro hg) | (apply GJ.or; exact rfl; intro hg)))
          refine CallOk.sup (own0 := .blk p 87 [.pointer q1, .slice a1 l1.length c1] :: .sl a1 l1.length c1 5 1 (l1.map u8) :: r) Sup.auto ?_
          refine (ih kd (List.mem_of_getElem? hkd)).run false rfl hwk1 ht hv i2 i4 i5 hlen (fun q2 a2 c2 g1 g2 g3 => ?_)
          repeat (first
            | (show _ ∧ _; exact ⟨rfl, rfl, rfl⟩)
            | refine wkP ?_
            | (show OpOk _ _ _ _ _ _ _; first | refine opB (fun b => ?_) | refine opA (fun a' c' hc1 hc2 => ?_))
            | (show GJ _ _ _ _ _ _ _; first | (apply GJ.and; exact rfl; intro hg) | (apply GJ.or; exact rfl; intro hg)))
          refine Wk.id ⟨(1, q2, a2, c2, l1 ++ writeD kd false), ⟨rfl, ?_⟩, ?_, Sub.auto, Sup.auto⟩
          all_goals try dsimp only
          · exact ⟨by omega, g1, by rw [htk, i3]; simp, g2, g3⟩
          · omega
      · rw [if_neg (by omega), List.length_append, List.length_singleton] at hlen
        rw [if_neg (by omega)] at htk
        repeat (first
          | (show _ ∧ _; exact ⟨rfl, rfl, rfl⟩)
          | refine wkP ?_
          | (show OpOk _ _ _ _ _ _ _; first | refine opB (fun b => ?_) | refine opA (fun a' c' hc1 hc2 => ?_))
          | (show GJ _ _ _ _ _ _ _; first | (apply GJ.and; exact rfl; intro hg) | (apply GJ.or; exact rfl; intro hg)))
        rw [Int.toNat_natCast]
        refine OpOk.loadRow rfl rfl (LdN.at hrs hvk) rfl ?_
        repeat (first
          | (show _ ∧ _; exact ⟨rfl, rfl, rfl⟩)
          | refine wkP ?_
          | (show OpOk _ _ _ _ _ _ _; first | refine opB (fun b => ?_) | refine opA (fun a' c' hc1 hc2 => ?_))
          | (show GJ _ _ _ _ _ _ _; first | (apply GJ.and; exact rfl; intro hg) | (apply GJ.or; exact rfl; intro hg)))
        refine CallOk.sup (own0 := .blk p 87 [.pointer q1, .slice a1 l1.length c1] :: .sl a1 l1.length c1 5 1 (l1.map u8) :: .blk b 58 (nodeV kd.kind kd.set ak kd.kids.length ck kd.min kd.max) :: r) Sup.auto ?_
        refine wbyteL_ok (u := 124) i2 rfl rfl (by omega) (fun a3 c3 k1 k2 => ?_)
        rw [show l1.length + 1 = (l1 ++ [124]).length by simp] at k1 ⊢
        by_cases h4 : kd.kind = 4
        · rw [decide_eq_true h4] at htk hlen
          repeat (first
            | (show _ ∧ _; exact ⟨rfl, rfl, rfl⟩)
            | refine wkP ?_
            | (show OpOk _ _ _ _ _ _ _; first | refine opB (fun b => ?_) | refine opA (fun a' c' hc1 hc2 => ?_))
            | (show GJ _ _ _ _ _ _ _; first | (apply GJ.and; exact rfl; intro hg) | (apply GJ.or; exact rfl; intro hg)))
          refine CallOk.sup (own0 := .blk p 87 [ptr' p, .slice a3 (l1 ++ [124]).length c3] :: .sl a3 (l1 ++ [124]).length c3 5 1 ((l1 ++ [124]).map u8) :: r) Sup.auto ?_
          refine (ih kd (List.mem_of_getElem? hkd)).run true rfl hwk1 ht hv (.inr rfl) k1 k2 (by rw [List.length_append, List.length_singleton]; omega) (fun q2 a2 c2 g1 g2 g3 => ?_)
          repeat (first
            | (show _ ∧ _; exact ⟨rfl, rfl, rfl⟩)
            | refine wkP ?_
            | (show OpOk _ _ _ _ _ _ _; first | refine opB (fun b => ?_) | refine opA (fun a' c' hc1 hc2 => ?_))
            | (show GJ _ _ _ _ _ _ _; first | (apply GJ.and; exact rfl; intro hg) | (apply GJ.or; exact rfl; intro hg)))
          refine Wk.id ⟨(i + 1, q2, a2, c2, l1 ++ [124] ++ writeD kd true), ⟨rfl, ?_⟩, ?_, Sub.auto, Sup.auto⟩
          all_goals try dsimp only
          · exact ⟨by omega, g1, by rw [htk, i3]; simp, g2, g3⟩
          · omega
        · rw [decide_eq_false h4] at htk hlen
          repeat (first
            | (show _ ∧ _; exact ⟨rfl, rfl, rfl⟩)
            | refine wkP ?_
            | (show OpOk _ _ _ _ _ _ _; first | refine opB (fun b => ?_) | refine opA (fun a' c' hc1 hc2 => ?_))
            | (show GJ _ _ _ _ _ _ _; first | (apply GJ.and; exact rfl; intro hg) | (apply GJ.or; exact rfl; intro hg)))
          refine CallOk.sup (own0 := .blk p 87 [ptr' p, .slice a3 (l1 ++ [124]).length c3] :: .sl a3 (l1 ++ [124]).length c3 5 1 ((l1 ++ [124]).map u8) :: r) Sup.auto ?_
          refine (ih kd (List.mem_of_getElem? hkd)).run false rfl hwk1 ht hv (.inr rfl) k1 k2 (by rw [List.length_append, List.length_singleton]; omega) (fun q2 a2 c2 g1 g2 g3 => ?_)
          repeat (first
            | (show _ ∧ _; exact ⟨rfl, rfl, rfl⟩)
            | refine wkP ?_
            | (show OpOk _ _ _ _ _ _ _; first | refine opB (fun b => ?_) | refine opA (fun a' c' hc1 hc2 => ?_))
            | (show GJ _ _ _ _ _ _ _; first | (apply GJ.and; exact rfl; intro hg) | (apply GJ.or; exact rfl; intro hg)))
          refine Wk.id ⟨(i + 1, q2, a2, c2, l1 ++ [124] ++ writeD kd false), ⟨rfl, ?_⟩, ?_, Sub.auto, Sup.auto⟩
          all_goals try dsimp only
          · exact ⟨by omega, g1, by rw [htk, i3]; simp, g2, g3⟩
          · omega
    obtain rfl : i = ks.length := by omega
    rw [List.take_length] at i3
    repeat (first
      | (show _ ∧ _; exact ⟨rfl, rfl, rfl⟩)
      | refine wkP ?_
      | (show OpOk _ _ _ _ _ _ _; first | refine opB (fun b => ?_) | refine opA (fun a' c' hc1 hc2 => ?_))
      | (show GJ _ _ _ _ _ _ _; first | (apply GJ.and; exact rfl; intro hg) | (apply GJ.or; exact rfl; intro hg)))
    refine CallOk.sup (own0 := .blk p 87 [.pointer q1, .slice a1 l1.length c1] :: .sl a1 l1.length c1 5 1 (l1.map u8) :: r) Sup.auto ?_
    refine wbyteL_ok (u := 41) i2 rfl rfl (by rw [i3]; simp; simp at hl2; omega) (fun a2 c2 k3 k4 => ?_)
    rw [show l1.length + 1 = (l1 ++ [41]).length by simp] at k3 ⊢
    repeat (first
      | (show _ ∧ _; exact ⟨rfl, rfl, rfl⟩)
      | refine wkP ?_
      | (show OpOk _ _ _ _ _ _ _; first | refine opB (fun b => ?_) | refine opA (fun a' c' hc1 hc2 => ?_))
      | (show GJ _ _ _ _ _ _ _; first | (apply GJ.and; exact rfl; intro hg) | (apply GJ.or; exact rfl; intro hg)))
    exact Wk.outS Sup.auto (.refl _) (hk _ a2 c2 _ (by rw [i3]; rfl) (.inr rfl) k3 k4)
  | false =>
    have hx : x = 0 := hx
    subst hx
    have hl : l.length + (writeA ks true).length + 0 ≤ 10000000 := hl
    have hl2 : l.length + (writeA ks true).length ≤ 10000000 := by omega
    refine CallOk.intro (args := [_, _, _]) (rs := []) T_ok Tryd.func57 Tryd.call57 rfl rfl (by kernel_rfl) rfl rfl ?_
    repeat (first
      | (show _ ∧ _; exact ⟨rfl, rfl, rfl⟩)
      | refine wkP ?_
      | (show OpOk _ _ _ _ _ _ _; first | refine opB (fun b => ?_) | refine opA (fun a' c' hc1 hc2 => ?_))
      | (show GJ _ _ _ _ _ _ _; first | (apply GJ.and; exact rfl; intro hg) | (apply GJ.or; exact rfl; intro hg)))
    refine LoopOk.at (ι := Nat × Option Addr × Option Addr × Nat × List UInt8) Keep.auto (fun (i, q1, a1, c1, l1) => [(54, .int .i64 (i : Int))]) (fun (i, q1, a1, c1, l1) => .blk p 87 [.pointer q1, .slice a1 l1.length c1] :: .sl a1 l1.length c1 5 1 (l1.map u8) :: r) (fun (i, q1, a1, c1, l1) => i ≤ ks.length ∧ BQ p q1 ∧ l1 = l ++ writeA (ks.take i) true ∧ l1.length ≤ c1 ∧ c1 ≤ maxLen) (fun (i, q1, a1, c1, l1) => ks.length - i) (0, q, a, c, l) ?_ Sub.auto Sup.auto ?_
    · exact ⟨Nat.zero_le _, hq, by simp [writeA], hc, hm⟩
    rintro ⟨i, q1, a1, c1, l1⟩ ⟨i1, i2, i3, i4, i5⟩
    dsimp only [List.cons_append, List.nil_append] at i1 i2 i3 i4 i5 ⊢
    by_cases hi : i < ks.length
    · obtain ⟨kd, hkd⟩ : ∃ kd, ks[i]? = some kd := ⟨_, List.getElem?_eq_getElem hi⟩
      have hv := hks.get hkd
      obtain ⟨ak, ck, hvk⟩ := hv.cells
      rw [hvk] at hv
      have htk : writeA (ks.take (i + 1)) true = writeA (ks.take i) true ++ ((if i = 0 then [] else [124]) ++ writeD kd (decide (kd.kind = 4))) := by
        rw [List.take_add_one, hkd]; show writeA (ks.take i ++ [kd]) true = _
        rw [writeA_app, writeA, writeA, List.append_nil]
        cases i with
        | zero => simp
        | succ i =>
          have : (ks.take (i + 1)).isEmpty = false := by cases ks with
            | nil => simp at hi
            | cons y ys => rfl
          rw [this]; simp
      have hsum : writeA ks true = writeA (ks.take (i + 1)) true ++ writeA (ks.drop (i + 1)) (true && (ks.take (i + 1)).isEmpty) := by rw [← writeA_app, List.take_append_drop]
      have hlen : l1.length + ((if i = 0 then ([] : List UInt8) else [124]) ++ writeD kd (decide (kd.kind = 4))).length ≤ 10000000 := by
        have := congrArg List.length hsum
        rw [htk] at this
        simp only [i3, List.length_append] at this ⊢
        (try simp only [List.length_append] at hl2)
        omega
      have hwk1 := wrongK_mem hwk (List.mem_of_getElem? hkd)
      have hiz : i = 0 ∨ 0 < i := by omega
      rcases hiz with rfl | hpos
      · rw [if_pos rfl, List.nil_append] at htk hlen
        repeat (first
          | (show _ ∧ _; exact ⟨rfl, rfl, rfl⟩)
          | refine wkP ?_
          | (show OpOk _ _ _ _ _ _ _; first | refine opB (fun b => ?_) | refine opA (fun a' c' hc1 hc2 => ?_))
          | (show GJ _ _ _ _ _ _ _; first | (apply GJ.and; exact rfl; intro hg) | (apply GJ.or; exact rfl; intro hg)))
        rw [Int.toNat_natCast]
        refine OpOk.loadRow rfl rfl (LdN.at hrs hvk) rfl ?_
        by_cases h4 : kd.kind = 4
        · rw [decide_eq_true h4] at htk hlen
          repeat (first
            | (show _ ∧ _; exact ⟨rfl, rfl, rfl⟩)
            | refine wkP ?_
            | (show OpOk _ _ _ _ _ _ _; first | refine opB (fun b => ?_) | refine opA (fun a' c' hc1 hc2 => ?_))
            | (show GJ _ _ _ _ _ _ _; first | (apply GJ.and; exact rfl; intro hg) | (apply GJ.or; exact rfl; intro hg)))
          refine CallOk.sup (own0 := .blk p 87 [.pointer q1, .slice a1 l1.length c1] :: .sl a1 l1.length c1 5 1 (l1.map u8) :: r) Sup.auto ?_
          refine (ih kd (List.mem_of_getElem? hkd)).run true rfl hwk1 ht hv i2 i4 i5 hlen (fun q2 a2 c2 g1 g2 g3 => ?_)
          repeat (first
            | (show _ ∧ _; exact ⟨rfl, rfl, rfl⟩)
            | refine wkP ?_
            | (show OpOk _ _ _ _ _ _ _; first | refine opB (fun b => ?_) | refine opA (fun a' c' hc1 hc2 => ?_))
            | (show GJ _ _ _ _ _ _ _; first | (apply GJ.and; exact rfl; intro hg) | (apply GJ.or; exact rfl; intro hg)))
          refine Wk.id ⟨(1, q2, a2, c2, l1 ++ writeD kd true), ⟨rfl, ?_⟩, ?_, Sub.auto, Sup.auto⟩
          all_goals try dsimp only
          · exact ⟨by omega, g1, by rw [htk, i3]; simp, g2, g3⟩
          · omega
        · rw [decide_eq_false h4] at htk hlen
          repeat (first
            | (show _ ∧ _; exact ⟨rfl, rfl, rfl⟩)
            | refine wkP ?_
            | (show OpOk _ _ _ _ _ _ _; first | refine opB (fun b => ?_) | refine opA (fun a' c' hc1 hc2 => ?_))
            | (show GJ _ _ _ _ _ _ _; first | (apply GJ.and; exact rfl; intro hg) | (apply GJ.or; exact rfl; intro hg)))
          refine CallOk.sup (own0 := .blk p 87 [.pointer q1, .slice a1 l1.length c1] :: .sl a1 l1.length c1 5 1 (l1.map u8) :: r) Sup.auto ?_
          refine (ih kd (List.mem_of_getElem? hkd)).run false rfl hwk1 ht hv i2 i4 i5 hlen (fun q2 a2 c2 g1 g2 g3 => ?_)
          repeat (first
            | (show _ ∧ _; exact ⟨rfl, rfl, rfl⟩)
            | refine wkP ?_
            | (show OpOk _ _ _ _ _ _ _; first | refine opB (fun b => ?_) | refine opA (fun a' c' hc1 hc2 => ?_))
            | (show GJ _ _ _ _ _ _ _; first | (apply GJ.and; exact rfl; intro hg) | (apply GJ.or; exact rfl; intro hg)))
          refine Wk.id ⟨(1, q2, a2, c2, l1 ++ writeD kd false), ⟨rfl, ?_⟩, ?_, Sub.auto, Sup.auto⟩
          all_goals try dsimp only
          · exact ⟨by omega, g1, by rw [htk, i3]; simp, g2, g3⟩
          · omega
      · rw [if_neg (by omega), List.length_append, List.length_singleton] at hlen
        rw [if_neg (by omega)] at htk
        repeat (first
          | (show _ ∧ _; exact ⟨rfl, rfl, rfl⟩)
          | refine wkP ?_
          | (show OpOk _ _ _ _ _ _ _; first | refine opB (fun b => ?_) | refine opA (fun a' c' hc1 hc2 => ?_))
          | (show GJ _ _ _ _ _ _ _; first | (apply GJ.and; exact rfl; intro hg) | (apply GJ.or; exact rfl; intro hg)))
        rw [Int.toNat_natCast]
        refine OpOk.loadRow rfl rfl (LdN.at hrs hvk) rfl ?_
        repeat (first
          | (show _ ∧ _; exact ⟨rfl, rfl, rfl⟩)
          | refine wkP ?_
          | (show OpOk _ _ _ _ _ _ _; first | refine opB (fun b => ?_) | refine opA (fun a' c' hc1 hc2 => ?_))
          | (show GJ _ _ _ _ _ _ _; first | (apply GJ.and; exact rfl; intro hg) | (apply GJ.or; exact rfl; intro hg)))
        refine CallOk.sup (own0 := .blk p 87 [.pointer q1, .slice a1 l1.length c1] :: .sl a1 l1.length c1 5 1 (l1.map u8) :: .blk b 58 (nodeV kd.kind kd.set ak kd.kids.length ck kd.min kd.max) :: r) Sup.auto ?_
        refine wbyteL_ok (u := 124) i2 rfl rfl (by omega) (fun a3 c3 k1 k2 => ?_)
        rw [show l1.length + 1 = (l1 ++ [124]).length by simp] at k1 ⊢
        by_cases h4 : kd.kind = 4
        · rw [decide_eq_true h4] at htk hlen
          repeat (first
            | (show _ ∧ _; exact ⟨rfl, rfl, rfl⟩)
            | refine wkP ?_
            | (show OpOk _ _ _ _ _ _ _; first | refine opB (fun b => ?_) | refine opA (fun a' c' hc1 hc2 => ?_))
            | (show GJ _ _ _ _ _ _ _; first | (apply GJ.and; exact rfl; intro hg) | (apply GJ.or; exact rfl; intro hg)))
          refine CallOk.sup (own0 := .blk p 87 [ptr' p, .slice a3 (l1 ++ [124]).length c3] :: .sl a3 (l1 ++ [124]).length c3 5 1 ((l1 ++ [124]).map u8) :: r) Sup.auto ?_
          refine (ih kd (List.mem_of_getElem? hkd)).run true rfl hwk1 ht hv (.inr rfl) k1 k2 (by rw [List.length_append, List.length_singleton]; omega) (fun q2 a2 c2 g1 g2 g3 => ?_)
          repeat (first
            | (show _ ∧ _; exact ⟨rfl, rfl, rfl⟩)
            | refine wkP ?_
            | (show OpOk _ _ _ _ _ _ _; first | refine opB (fun b => ?_) | refine opA (fun a' c' hc1 hc2 => ?_))
            | (show GJ _ _ _ _ _ _ _; first | (apply GJ.and; exact rfl; intro hg) | (apply GJ.or; exact rfl; intro hg)))
          refine Wk.id ⟨(i + 1, q2, a2, c2, l1 ++ [124] ++ writeD kd true), ⟨rfl, ?_⟩, ?_, Sub.auto, Sup.auto⟩
          all_goals try dsimp only
          · exact ⟨by omega, g1, by rw [htk, i3]; simp, g2, g3⟩
          · omega
        · rw [decide_eq_false h4] at htk hlen
          repeat (first
            | (show _ ∧ _; exact ⟨rfl, rfl, rfl⟩)
            | refine wkP ?_
            | (show OpOk _ _ _ _ _ _ _; first | refine opB (fun b => ?_) | refine opA (fun a' c' hc1 hc2 => ?_))
            | (show GJ _ _ _ _ _ _ _; first | (apply GJ.and; exact rfl; intro hg) | (apply GJ.or; exact rfl; intro hg)))
          refine CallOk.sup (own0 := .blk p 87 [ptr' p, .slice a3 (l1 ++ [124]).length c3] :: .sl a3 (l1 ++ [124]).length c3 5 1 ((l1 ++ [124]).map u8) :: r) Sup.auto ?_
          refine (ih kd (List.mem_of_getElem? hkd)).run false rfl hwk1 ht hv (.inr rfl) k1 k2 (by rw [List.length_append, List.length_singleton]; omega) (fun q2 a2 c2 g1 g2 g3 => ?_)
          repeat (first
            | (show _ ∧ _; exact ⟨rfl, rfl, rfl⟩)
            | refine wkP ?_
            | (show OpOk _ _ _ _ _ _ _; first | refine opB (fun b => ?_) | refine opA (fun a' c' hc1 hc2 => ?_))
            | (show GJ _ _ _ _ _ _ _; first | (apply GJ.and; exact rfl; intro hg) | (apply GJ.or; exact rfl; intro hg)))
          refine Wk.id ⟨(i + 1, q2, a2, c2, l1 ++ [124] ++ writeD kd false), ⟨rfl, ?_⟩, ?_, Sub.auto, Sup.auto⟩
          all_goals try dsimp only
          · exact ⟨by omega, g1, by rw [htk, i3]; simp, g2, g3⟩
          · omega
    obtain rfl : i = ks.length := by omega
    rw [List.take_length] at i3
    repeat (first
      | (show _ ∧ _; exact ⟨rfl, rfl, rfl⟩)
      | refine wkP ?_
      | (show OpOk _ _ _ _ _ _ _; first | refine opB (fun b => ?_) | refine opA (fun a' c' hc1 hc2 => ?_))
      | (show GJ _ _ _ _ _ _ _; first | (apply GJ.and; exact rfl; intro hg) | (apply GJ.or; exact rfl; intro hg)))
    exact Wk.outS Sup.auto (.refl _) (hk _ a1 c1 _ (by rw [i3]; rfl) i2 i4 i5)
end
end Go.Proofs.YtniofdklhlbphaaDoor
