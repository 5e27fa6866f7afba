/- The law ClassSplits. -/
import Derived.Test.YtocliedpgdfkoaaDoorCD
import Derived.Test.YtocliedpgdfkoaaDoorCF
import Derived.Test.YtocliedpgdfkoaaDoorCI
import Derived.Test.YtocliedpgdfkoaaDoorV16
namespace Go.Proofs.YtocliedpgdfkoaaDoor
open Go Go.E
set_option linter.unusedVariables false
set_option maxRecDepth 10000
def unD (l : List SetD) : SetD := l.foldl SetD.or ⟨0, 0, 0, 0⟩
theorem unD_snoc (l : List SetD) (s : SetD) : unD (l ++ [s]) = (unD l).or s := by simp [unD]
theorem unD_in : ∀ (l : List SetD) (z : SetD), SetIn z → (∀ s ∈ l, SetIn s) → SetIn (l.foldl SetD.or z)
  | [], z, h, _ => h
  | s :: l, z, h, hs => unD_in l (z.or s) (h.or (hs s (by simp))) (fun x hx => hs x (by simp [hx]))
theorem unD_has : ∀ (l : List SetD) (z : SetD) (c : Nat), (l.foldl SetD.or z).has c = (z.has c || l.any (·.has c))
  | [], z, c => by simp
  | s :: l, z, c => by rw [List.foldl_cons, unD_has l (z.or s) c, SetD.has_or, List.any_cons, Bool.or_assoc]
section
variable {ro : Ro} {own r : Chs} {K : Value → Ro → Chs → Prop} {g : Chunk → Chs}
set_option maxHeartbeats 2000000 in
theorem csplits_ok {l : List SetD} {a : Option Addr} {cap : Nat} (ht : TabOk ro) (hr : Rs ro a l.length cap 4 (setsV l)) (hs : ∀ s ∈ l, SetIn s) (hk : K (.bool true) ro own) : CallOk Tryd.prog 4 #[.slice a l.length cap] ro own K := by
  refine CallOk.intro (args := [_]) (rs := [_]) T_ok Tryd.func4 Tryd.call4 rfl rfl (by kernel_rfl) rfl rfl ?_
  repeat (first
    | (show _ ∧ _; exact ⟨rfl, rfl, rfl⟩)
    | refine wkT ?_
    | (show OpOk _ _ _ _ _ _ _; first | refine opB (fun b => ?_) | refine opA (fun a' c' hc1 hc2 => ?_))
    | (show GJ _ _ _ _ _ _ _; first | (apply GJ.and; exact rfl; intro hg) | (apply GJ.or; exact rfl; intro hg)))
  refine sets_ok ht ?_
  repeat (first
    | (show _ ∧ _; exact ⟨rfl, rfl, rfl⟩)
    | refine wkT ?_
    | (show OpOk _ _ _ _ _ _ _; first | refine opB (fun b => ?_) | refine opA (fun a' c' hc1 hc2 => ?_))
    | (show GJ _ _ _ _ _ _ _; first | (apply GJ.and; exact rfl; intro hg) | (apply GJ.or; exact rfl; intro hg)))
  by_cases hl : l.length ≤ 20
  · repeat (first
      | (show _ ∧ _; exact ⟨rfl, rfl, rfl⟩)
      | refine wkT ?_
      | (show OpOk _ _ _ _ _ _ _; first | refine opB (fun b => ?_) | refine opA (fun a' c' hc1 hc2 => ?_))
      | (show GJ _ _ _ _ _ _ _; first | (apply GJ.and; exact rfl; intro hg) | (apply GJ.or; exact rfl; intro hg)))
    refine split_ok ht hs (by omega) hr.rds (fun a1 c1 h1 h2 => ?_)
    repeat (first
      | (show _ ∧ _; exact ⟨rfl, rfl, rfl⟩)
      | refine wkT ?_
      | (show OpOk _ _ _ _ _ _ _; first | refine opB (fun b => ?_) | refine opA (fun a' c' hc1 hc2 => ?_))
      | (show GJ _ _ _ _ _ _ _; first | (apply GJ.and; exact rfl; intro hg) | (apply GJ.or; exact rfl; intro hg)))
    have hcut := splitD_cuts hs
    generalize splitD l = ps at hcut h1 ⊢
    have hpl := hcut.len
    refine LoopOk.at (ι := Nat × Int) Keep.auto (fun (j, z) => [(29, .int .i64 (j : Int)), (5, .int .i64 z)]) (fun (j, z) => .blk b 24 (setV (unD (ps.take j))) :: .sl a1 ps.length c1 24 4 (setsV ps) :: own) (fun (j, z) => j ≤ ps.length ∧ ∀ p, ps[j]? = some p → ∀ c, p.firstIs c = true → z < (c : Int)) (fun (j, z) => ps.length - j) (0, -1) ?_ Sub.auto Sup.auto ?_
    · exact ⟨by omega, fun p _ c _ => by omega⟩
    rintro ⟨j, z⟩ ⟨i1, i2⟩
    dsimp only [List.cons_append, List.nil_append] at i1 i2 ⊢
    repeat (first
      | (show _ ∧ _; exact ⟨rfl, rfl, rfl⟩)
      | refine wkT ?_
      | (show OpOk _ _ _ _ _ _ _; first | refine opB (fun b => ?_) | refine opA (fun a' c' hc1 hc2 => ?_))
      | (show GJ _ _ _ _ _ _ _; first | (apply GJ.and; exact rfl; intro hg) | (apply GJ.or; exact rfl; intro hg)))
    refine Br.cases (fun hg => ?_) (fun hg => ?_)
    · obtain ⟨p, hpj⟩ : ∃ p, ps[j]? = some p := ⟨_, List.getElem?_eq_getElem (by omega)⟩
      obtain ⟨hpi, hp0⟩ := hcut.each p (List.mem_of_getElem? hpj)
      have htk : ps.take (j + 1) = ps.take j ++ [p] := by rw [List.take_add_one, hpj]; rfl
      have hui : SetIn (unD (ps.take j)) := unD_in _ _ SetIn.zero fun s hs => (hcut.each s (List.mem_of_mem_take hs)).1
      have hand : (unD (ps.take j)).and p = ⟨0, 0, 0, 0⟩ := by
        refine SetD.ext hui.and SetIn.zero fun c hc => ?_
        rw [SetD.has_and, SetD.has_zero, unD, unD_has, SetD.has_zero, Bool.false_or, Bool.and_eq_false_iff]
        cases hpc : p.has c with
        | false => exact .inr rfl
        | true =>
          refine .inl (List.any_eq_false.2 fun q hq => ?_)
          obtain ⟨k, hk, hkq⟩ := List.mem_take_iff_getElem.1 hq
          have hq2 : ps[k]? = some q := by rw [← hkq]; exact List.getElem?_eq_getElem (by omega)
          have := (hcut.at (i := k) (j := j) (by omega) hq2 hpj).2 c hc
          intro hqc
          exact this ⟨hqc, hpc⟩
      obtain ⟨u, hu⟩ : ∃ u, unD (ps.take j) = u := ⟨_, rfl⟩
      obtain ⟨u2, hu2⟩ : ∃ u2, unD (ps.take (j + 1)) = u2 := ⟨_, rfl⟩
      have hor : u.or p = u2 := by rw [← hu2, htk, unD_snoc, hu]
      rw [hu] at hui hand ⊢
      have hro : Rds ro (.blk b 24 (setV u) :: .sl a1 ps.length c1 24 4 (setsV ps) :: own) a1 ps.length c1 4 (setsV ps) := Rds.hasSl h1 h2 (setsV_len _)
      obtain ⟨b0, hb0⟩ : ∃ b0, b0 = b := ⟨_, rfl⟩
      subst hb0
      repeat (first
        | (show _ ∧ _; exact ⟨rfl, rfl, rfl⟩)
        | refine wkT ?_
        | (show OpOk _ _ _ _ _ _ _; first | refine opB (fun b => ?_) | refine opA (fun a' c' hc1 hc2 => ?_))
        | (show GJ _ _ _ _ _ _ _; first | (apply GJ.and; exact rfl; intro hg) | (apply GJ.or; exact rfl; intro hg)))
      refine OpOk.loadRow rfl rfl (LdN.atR hro (setsV_drop _ _ _ hpj) (by omega)) rfl ?_
      repeat (first
        | (show _ ∧ _; exact ⟨rfl, rfl, rfl⟩)
        | refine wkT ?_
        | (show OpOk _ _ _ _ _ _ _; first | refine opB (fun b => ?_) | refine opA (fun a' c' hc1 hc2 => ?_))
        | (show GJ _ _ _ _ _ _ _; first | (apply GJ.and; exact rfl; intro hg) | (apply GJ.or; exact rfl; intro hg)))
      refine first_ok ht hpi (fun h0 => absurd h0 hp0) (fun c hc h3 h4 => ?_)
      have hfc : p.firstIs c = true := by rw [firstIs_some hc h3 h4, decide_eq_true_iff]
      have hzc := i2 p hpj c hfc
      repeat (first
        | (show _ ∧ _; exact ⟨rfl, rfl, rfl⟩)
        | refine wkT ?_
        | (show OpOk _ _ _ _ _ _ _; first | refine opB (fun b => ?_) | refine opA (fun a' c' hc1 hc2 => ?_))
        | (show GJ _ _ _ _ _ _ _; first | (apply GJ.and; exact rfl; intro hg) | (apply GJ.or; exact rfl; intro hg)))
      refine and_ok hui hpi ?_
      repeat (first
        | (show _ ∧ _; exact ⟨rfl, rfl, rfl⟩)
        | refine wkT ?_
        | (show OpOk _ _ _ _ _ _ _; first | refine opB (fun b => ?_) | refine opA (fun a' c' hc1 hc2 => ?_))
        | (show GJ _ _ _ _ _ _ _; first | (apply GJ.and; exact rfl; intro hg) | (apply GJ.or; exact rfl; intro hg)))
      refine empty_ok ?_
      rw [decide_eq_true hand]
      repeat (first
        | (show _ ∧ _; exact ⟨rfl, rfl, rfl⟩)
        | refine wkT ?_
        | (show OpOk _ _ _ _ _ _ _; first | refine opB (fun b => ?_) | refine opA (fun a' c' hc1 hc2 => ?_))
        | (show GJ _ _ _ _ _ _ _; first | (apply GJ.and; exact rfl; intro hg) | (apply GJ.or; exact rfl; intro hg)))
      refine or_ok hui hpi ?_
      rw [hor]
      repeat (first
        | (show _ ∧ _; exact ⟨rfl, rfl, rfl⟩)
        | refine wkT ?_
        | (show OpOk _ _ _ _ _ _ _; first | refine opB (fun b => ?_) | refine opA (fun a' c' hc1 hc2 => ?_))
        | (show GJ _ _ _ _ _ _ _; first | (apply GJ.and; exact rfl; intro hg) | (apply GJ.or; exact rfl; intro hg)))
      refine LoopOk.at (ι := Nat) Keep.auto (fun k => [(60, .int .i64 (k : Int))]) (fun k => .blk b 24 (setV p) :: .blk b0 24 (setV u2) :: .sl a1 ps.length c1 24 4 (setsV ps) :: own) (fun k => k ≤ l.length) (fun k => l.length - k) 0 ?_ Sub.auto Sup.auto ?_
      · exact Nat.zero_le _
      rintro k k1
      dsimp only [List.cons_append, List.nil_append] at k1 ⊢
      repeat (first
        | (show _ ∧ _; exact ⟨rfl, rfl, rfl⟩)
        | refine wkT ?_
        | (show OpOk _ _ _ _ _ _ _; first | refine opB (fun b => ?_) | refine opA (fun a' c' hc1 hc2 => ?_))
        | (show GJ _ _ _ _ _ _ _; first | (apply GJ.and; exact rfl; intro hg) | (apply GJ.or; exact rfl; intro hg)))
      refine Br.cases (fun hg2 => ?_) (fun hg2 => ?_)
      · obtain ⟨s, hsj⟩ : ∃ s, l[k]? = some s := ⟨_, List.getElem?_eq_getElem (by omega)⟩
        have hsi := hs s (List.mem_of_getElem? hsj)
        repeat (first
          | (show _ ∧ _; exact ⟨rfl, rfl, rfl⟩)
          | refine wkT ?_
          | (show OpOk _ _ _ _ _ _ _; first | refine opB (fun b => ?_) | refine opA (fun a' c' hc1 hc2 => ?_))
          | (show GJ _ _ _ _ _ _ _; first | (apply GJ.and; exact rfl; intro hg) | (apply GJ.or; exact rfl; intro hg)))
        refine OpOk.loadRow rfl rfl (LdN.atR (hr.rds (ro' := ro) (own := own)) (setsV_drop _ _ _ hsj) (by omega)) rfl ?_
        repeat (first
          | (show _ ∧ _; exact ⟨rfl, rfl, rfl⟩)
          | refine wkT ?_
          | (show OpOk _ _ _ _ _ _ _; first | refine opB (fun b => ?_) | refine opA (fun a' c' hc1 hc2 => ?_))
          | (show GJ _ _ _ _ _ _ _; first | (apply GJ.and; exact rfl; intro hg) | (apply GJ.or; exact rfl; intro hg)))
        refine and_ok hpi hsi ?_
        rcases hcut.within (List.mem_of_getElem? hpj) (List.mem_of_getElem? hsj) with hw | hw
        · rw [hw]
          repeat (first
            | (show _ ∧ _; exact ⟨rfl, rfl, rfl⟩)
            | refine wkT ?_
            | (show OpOk _ _ _ _ _ _ _; first | refine opB (fun b => ?_) | refine opA (fun a' c' hc1 hc2 => ?_))
            | (show GJ _ _ _ _ _ _ _; first | (apply GJ.and; exact rfl; intro hg) | (apply GJ.or; exact rfl; intro hg)))
          refine empty_ok ?_
          rw [decide_eq_true rfl]
          repeat (first
            | (show _ ∧ _; exact ⟨rfl, rfl, rfl⟩)
            | refine wkT ?_
            | (show OpOk _ _ _ _ _ _ _; first | refine opB (fun b => ?_) | refine opA (fun a' c' hc1 hc2 => ?_))
            | (show GJ _ _ _ _ _ _ _; first | (apply GJ.and; exact rfl; intro hg) | (apply GJ.or; exact rfl; intro hg)))
          refine Wk.id ⟨k + 1, ⟨rfl, ?_⟩, ?_, Sub.auto, Sup.auto⟩
          all_goals try dsimp only
          · omega
          · omega
        · rw [hw]
          repeat (first
            | (show _ ∧ _; exact ⟨rfl, rfl, rfl⟩)
            | refine wkT ?_
            | (show OpOk _ _ _ _ _ _ _; first | refine opB (fun b => ?_) | refine opA (fun a' c' hc1 hc2 => ?_))
            | (show GJ _ _ _ _ _ _ _; first | (apply GJ.and; exact rfl; intro hg) | (apply GJ.or; exact rfl; intro hg)))
          refine empty_ok ?_
          rw [decide_eq_false hp0]
          repeat (first
            | (show _ ∧ _; exact ⟨rfl, rfl, rfl⟩)
            | refine wkT ?_
            | (show OpOk _ _ _ _ _ _ _; first | refine opB (fun b => ?_) | refine opA (fun a' c' hc1 hc2 => ?_))
            | (show GJ _ _ _ _ _ _ _; first | (apply GJ.and; exact rfl; intro hg) | (apply GJ.or; exact rfl; intro hg)))
          refine OpOk.neqArr4 (e := 22) rfl rfl (by kernel_rfl) (by kernel_rfl) (by kernel_rfl) (by kernel_rfl) ?_
          rw [decide_eq_true (⟨rfl, rfl, rfl, rfl⟩ : _ ∧ _ ∧ _ ∧ _)]
          repeat (first
            | (show _ ∧ _; exact ⟨rfl, rfl, rfl⟩)
            | refine wkT ?_
            | (show OpOk _ _ _ _ _ _ _; first | refine opB (fun b => ?_) | refine opA (fun a' c' hc1 hc2 => ?_))
            | (show GJ _ _ _ _ _ _ _; first | (apply GJ.and; exact rfl; intro hg) | (apply GJ.or; exact rfl; intro hg)))
          refine Wk.id ⟨k + 1, ⟨rfl, ?_⟩, ?_, Sub.auto, Sup.auto⟩
          all_goals try dsimp only
          · omega
          · omega
      · repeat (first
          | (show _ ∧ _; exact ⟨rfl, rfl, rfl⟩)
          | refine wkT ?_
          | (show OpOk _ _ _ _ _ _ _; first | refine opB (fun b => ?_) | refine opA (fun a' c' hc1 hc2 => ?_))
          | (show GJ _ _ _ _ _ _ _; first | (apply GJ.and; exact rfl; intro hg) | (apply GJ.or; exact rfl; intro hg)))
        subst hu2
        refine Wk.id ⟨(j + 1, (c : Int)), ⟨rfl, ?_⟩, ?_, Sub.auto, Sup.auto⟩
        all_goals try dsimp only
        · refine ⟨by omega, fun p2 hp2 c2 hc2 => ?_⟩
          obtain ⟨x, y, hx, hy, hxy⟩ := (hcut.at (Nat.lt_succ_self j) hpj hp2).1
          have e1 := firstIs_eq hx hfc
          have e2 := firstIs_eq hy hc2
          omega
        · omega
    · obtain rfl : j = ps.length := by omega
      have hall : unD (ps.take ps.length) = allD := by
        rw [List.take_length]
        refine SetD.ext (unD_in _ _ SetIn.zero fun s hs => (hcut.each s hs).1) SetIn.all fun c hc => ?_
        rw [SetD.has_all, unD, unD_has, SetD.has_zero, Bool.false_or, List.any_eq_true]
        exact hcut.all c hc
      rw [hall]
      repeat (first
        | (show _ ∧ _; exact ⟨rfl, rfl, rfl⟩)
        | refine wkT ?_
        | refine Bs.all ?_
        | (show OpOk _ _ _ _ _ _ _; first | refine opB (fun b => ?_) | refine opA (fun a' c' hc1 hc2 => ?_))
        | (show GJ _ _ _ _ _ _ _; first | (apply GJ.and; exact rfl; intro hg) | (apply GJ.or; exact rfl; intro hg)))
      refine all_ok ?_
      repeat (first
        | (show _ ∧ _; exact ⟨rfl, rfl, rfl⟩)
        | refine wkT ?_
        | refine Bs.all ?_
        | (show OpOk _ _ _ _ _ _ _; first | refine opB (fun b => ?_) | refine opA (fun a' c' hc1 hc2 => ?_))
        | (show GJ _ _ _ _ _ _ _; first | (apply GJ.and; exact rfl; intro hg) | (apply GJ.or; exact rfl; intro hg)))
      refine QOk.neqArr4 (e := 22) rfl rfl (by kernel_rfl) (by kernel_rfl) (by kernel_rfl) (by kernel_rfl) ?_
      rw [decide_eq_true (⟨rfl, rfl, rfl, rfl⟩ : _ ∧ _ ∧ _ ∧ _)]
      repeat (first
        | (show _ ∧ _; exact ⟨rfl, rfl, rfl⟩)
        | refine wkT ?_
        | refine Bs.all ?_
        | (show OpOk _ _ _ _ _ _ _; first | refine opB (fun b => ?_) | refine opA (fun a' c' hc1 hc2 => ?_))
        | (show GJ _ _ _ _ _ _ _; first | (apply GJ.and; exact rfl; intro hg) | (apply GJ.or; exact rfl; intro hg)))
      refine LoopOk.at (ι := Nat) Keep.auto (fun i => [(82, .int .i64 (i : Int))]) (fun i => .sl a1 ps.length c1 24 4 (setsV ps) :: own) (fun i => i ≤ ps.length) (fun i => ps.length - i) 0 ?_ Sub.auto Sup.auto ?_
      · exact Nat.zero_le _
      rintro i i1
      dsimp only [List.cons_append, List.nil_append] at i1 ⊢
      repeat (first
        | (show _ ∧ _; exact ⟨rfl, rfl, rfl⟩)
        | refine wkT ?_
        | refine Bs.all ?_
        | (show OpOk _ _ _ _ _ _ _; first | refine opB (fun b => ?_) | refine opA (fun a' c' hc1 hc2 => ?_))
        | (show GJ _ _ _ _ _ _ _; first | (apply GJ.and; exact rfl; intro hg) | (apply GJ.or; exact rfl; intro hg)))
      refine Br.cases (fun hg => ?_) (fun hg => ?_)
      · obtain ⟨p, hpi⟩ : ∃ p, ps[i]? = some p := ⟨_, List.getElem?_eq_getElem (by omega)⟩
        have hpin := (hcut.each p (List.mem_of_getElem? hpi)).1
        have hro : Rds ro (.sl a1 ps.length c1 24 4 (setsV ps) :: own) a1 ps.length c1 4 (setsV ps) := Rds.hasSl h1 h2 (setsV_len _)
        repeat (first
          | (show _ ∧ _; exact ⟨rfl, rfl, rfl⟩)
          | refine wkT ?_
          | refine Bs.all ?_
          | (show OpOk _ _ _ _ _ _ _; first | refine opB (fun b => ?_) | refine opA (fun a' c' hc1 hc2 => ?_))
          | (show GJ _ _ _ _ _ _ _; first | (apply GJ.and; exact rfl; intro hg) | (apply GJ.or; exact rfl; intro hg)))
        refine OpOk.loadRow rfl rfl (LdN.atR hro (setsV_drop _ _ _ hpi) (by omega)) rfl ?_
        obtain ⟨b0, hb0⟩ : ∃ b0 : Nat, b0 = b0 := ⟨0, rfl⟩
        clear hb0 b0
        repeat (first
          | (show _ ∧ _; exact ⟨rfl, rfl, rfl⟩)
          | refine wkT ?_
          | refine Bs.all ?_
          | (show OpOk _ _ _ _ _ _ _; first | refine opB (fun b => ?_) | refine opA (fun a' c' hc1 hc2 => ?_))
          | (show GJ _ _ _ _ _ _ _; first | (apply GJ.and; exact rfl; intro hg) | (apply GJ.or; exact rfl; intro hg)))
        obtain ⟨b0, hb0⟩ : ∃ b0, b0 = b := ⟨_, rfl⟩
        subst hb0
        refine LoopOk.at (ι := Nat) Keep.auto (fun k => [(91, .int .i64 (k : Int))]) (fun k => .blk b0 24 (setV p) :: .sl a1 ps.length c1 24 4 (setsV ps) :: own) (fun k => k ≤ i) (fun k => i - k) 0 ?_ Sub.auto Sup.auto ?_
        · exact Nat.zero_le _
        rintro k k1
        dsimp only [List.cons_append, List.nil_append] at k1 ⊢
        repeat (first
          | (show _ ∧ _; exact ⟨rfl, rfl, rfl⟩)
          | refine wkT ?_
          | refine Bs.all ?_
          | (show OpOk _ _ _ _ _ _ _; first | refine opB (fun b => ?_) | refine opA (fun a' c' hc1 hc2 => ?_))
          | (show GJ _ _ _ _ _ _ _; first | (apply GJ.and; exact rfl; intro hg) | (apply GJ.or; exact rfl; intro hg)))
        refine Br.cases (fun hg2 => ?_) (fun hg2 => ?_)
        · obtain ⟨q, hqk⟩ : ∃ q, ps[k]? = some q := ⟨_, List.getElem?_eq_getElem (by omega)⟩
          have hqi := (hcut.each q (List.mem_of_getElem? hqk)).1
          have hro2 : Rds ro (.blk b0 24 (setV p) :: .sl a1 ps.length c1 24 4 (setsV ps) :: own) a1 ps.length c1 4 (setsV ps) := Rds.hasSl h1 h2 (setsV_len _)
          have hro3 := hro2.cutI (lo := 0) (hi := (i : Int)) (by omega)
          have hdq : (((((setsV ps).drop ((0 : Int).toNat * 4)).take (((i : Int).toNat - (0 : Int).toNat) * 4)).drop (k * 4)).take 4) = setV q := by
            rw [List.drop_take, List.take_take, List.drop_drop, Nat.min_eq_left (by omega)]
            rw [show (0 : Int).toNat * 4 + k * 4 = k * 4 by omega]
            exact setsV_drop _ _ _ hqk
          repeat (first
            | (show _ ∧ _; exact ⟨rfl, rfl, rfl⟩)
            | refine wkT ?_
            | refine Bs.all ?_
            | (show OpOk _ _ _ _ _ _ _; first | refine opB (fun b => ?_) | refine opA (fun a' c' hc1 hc2 => ?_))
            | (show GJ _ _ _ _ _ _ _; first | (apply GJ.and; exact rfl; intro hg) | (apply GJ.or; exact rfl; intro hg)))
          refine OpOk.loadRow rfl rfl (LdN.atR hro3 hdq (by omega)) rfl ?_
          repeat (first
            | (show _ ∧ _; exact ⟨rfl, rfl, rfl⟩)
            | refine wkT ?_
            | refine Bs.all ?_
            | (show OpOk _ _ _ _ _ _ _; first | refine opB (fun b => ?_) | refine opA (fun a' c' hc1 hc2 => ?_))
            | (show GJ _ _ _ _ _ _ _; first | (apply GJ.and; exact rfl; intro hg) | (apply GJ.or; exact rfl; intro hg)))
          obtain ⟨b1, hb1⟩ : ∃ b1, b1 = b := ⟨_, rfl⟩
          subst hb1
          refine LoopOk.at (ι := Nat × Bool) Keep.auto (fun (m, f) => [(97, .int .i64 (m : Int)), (17, .bool f)]) (fun (m, f) => .blk b1 24 (setV q) :: .blk b0 24 (setV p) :: .sl a1 ps.length c1 24 4 (setsV ps) :: own) (fun (m, f) => m ≤ l.length ∧ f = (l.take m).any fun s => emp (p.and s) != emp (q.and s)) (fun (m, f) => l.length - m) (0, false) ?_ Sub.auto Sup.auto ?_
          · exact ⟨Nat.zero_le _, by simp⟩
          rintro ⟨m, f⟩ ⟨m1, m2⟩
          dsimp only [List.cons_append, List.nil_append] at m1 m2 ⊢
          repeat (first
            | (show _ ∧ _; exact ⟨rfl, rfl, rfl⟩)
            | refine wkT ?_
            | refine Bs.all ?_
            | (show OpOk _ _ _ _ _ _ _; first | refine opB (fun b => ?_) | refine opA (fun a' c' hc1 hc2 => ?_))
            | (show GJ _ _ _ _ _ _ _; first | (apply GJ.and; exact rfl; intro hg) | (apply GJ.or; exact rfl; intro hg)))
          refine Br.cases (fun hg3 => ?_) (fun hg3 => ?_)
          · obtain ⟨s, hsj⟩ : ∃ s, l[m]? = some s := ⟨_, List.getElem?_eq_getElem (by omega)⟩
            have hsi := hs s (List.mem_of_getElem? hsj)
            have htk : l.take (m + 1) = l.take m ++ [s] := by rw [List.take_add_one, hsj]; rfl
            repeat (first
              | (show _ ∧ _; exact ⟨rfl, rfl, rfl⟩)
              | refine wkT ?_
              | refine Bs.all ?_
              | (show OpOk _ _ _ _ _ _ _; first | refine opB (fun b => ?_) | refine opA (fun a' c' hc1 hc2 => ?_))
              | (show GJ _ _ _ _ _ _ _; first | (apply GJ.and; exact rfl; intro hg) | (apply GJ.or; exact rfl; intro hg)))
            refine OpOk.loadRow rfl rfl (LdN.atR (hr.rds (ro' := ro) (own := own)) (setsV_drop _ _ _ hsj) (by omega)) rfl ?_
            repeat (first
              | (show _ ∧ _; exact ⟨rfl, rfl, rfl⟩)
              | refine wkT ?_
              | refine Bs.all ?_
              | (show OpOk _ _ _ _ _ _ _; first | refine opB (fun b => ?_) | refine opA (fun a' c' hc1 hc2 => ?_))
              | (show GJ _ _ _ _ _ _ _; first | (apply GJ.and; exact rfl; intro hg) | (apply GJ.or; exact rfl; intro hg)))
            have hm2 : (l.take (m + 1)).any (fun s => emp (p.and s) != emp (q.and s)) = (f || (emp (p.and s) != emp (q.and s))) := by rw [htk, List.any_append, ← m2]; simp
            cases f with
            | true =>
              repeat (first
                | (show _ ∧ _; exact ⟨rfl, rfl, rfl⟩)
                | refine wkT ?_
                | refine Bs.all ?_
                | (show OpOk _ _ _ _ _ _ _; first | refine opB (fun b => ?_) | refine opA (fun a' c' hc1 hc2 => ?_))
                | (show GJ _ _ _ _ _ _ _; first | (apply GJ.and; exact rfl; intro hg) | (apply GJ.or; exact rfl; intro hg)))
              refine Wk.id ⟨(m + 1, true), ⟨rfl, ?_⟩, ?_, Sub.auto, Sup.auto⟩
              all_goals try dsimp only
              · exact ⟨by omega, by rw [hm2]; rfl⟩
              · omega
            | false =>
              repeat (first
                | (show _ ∧ _; exact ⟨rfl, rfl, rfl⟩)
                | refine wkT ?_
                | refine Bs.all ?_
                | (show OpOk _ _ _ _ _ _ _; first | refine opB (fun b => ?_) | refine opA (fun a' c' hc1 hc2 => ?_))
                | (show GJ _ _ _ _ _ _ _; first | (apply GJ.and; exact rfl; intro hg) | (apply GJ.or; exact rfl; intro hg)))
              refine and_ok hpin hsi ?_
              repeat (first
                | (show _ ∧ _; exact ⟨rfl, rfl, rfl⟩)
                | refine wkT ?_
                | refine Bs.all ?_
                | (show OpOk _ _ _ _ _ _ _; first | refine opB (fun b => ?_) | refine opA (fun a' c' hc1 hc2 => ?_))
                | (show GJ _ _ _ _ _ _ _; first | (apply GJ.and; exact rfl; intro hg) | (apply GJ.or; exact rfl; intro hg)))
              refine empty_ok ?_
              repeat (first
                | (show _ ∧ _; exact ⟨rfl, rfl, rfl⟩)
                | refine wkT ?_
                | refine Bs.all ?_
                | (show OpOk _ _ _ _ _ _ _; first | refine opB (fun b => ?_) | refine opA (fun a' c' hc1 hc2 => ?_))
                | (show GJ _ _ _ _ _ _ _; first | (apply GJ.and; exact rfl; intro hg) | (apply GJ.or; exact rfl; intro hg)))
              refine and_ok hqi hsi ?_
              repeat (first
                | (show _ ∧ _; exact ⟨rfl, rfl, rfl⟩)
                | refine wkT ?_
                | refine Bs.all ?_
                | (show OpOk _ _ _ _ _ _ _; first | refine opB (fun b => ?_) | refine opA (fun a' c' hc1 hc2 => ?_))
                | (show GJ _ _ _ _ _ _ _; first | (apply GJ.and; exact rfl; intro hg) | (apply GJ.or; exact rfl; intro hg)))
              refine empty_ok ?_
              repeat (first
                | (show _ ∧ _; exact ⟨rfl, rfl, rfl⟩)
                | refine wkT ?_
                | refine Bs.all ?_
                | (show OpOk _ _ _ _ _ _ _; first | refine opB (fun b => ?_) | refine opA (fun a' c' hc1 hc2 => ?_))
                | (show GJ _ _ _ _ _ _ _; first | (apply GJ.and; exact rfl; intro hg) | (apply GJ.or; exact rfl; intro hg)))
              refine Wk.id ⟨(m + 1, decide (emp (p.and s) ≠ emp (q.and s))), ⟨rfl, ?_⟩, ?_, Sub.auto, Sup.auto⟩
              all_goals try dsimp only
              · exact ⟨by omega, by rw [hm2]; cases emp (p.and s) <;> cases emp (q.and s) <;> rfl⟩
              · omega
          · obtain rfl : m = l.length := by omega
            obtain ⟨s, hs1, hs2⟩ := hcut.told (show k < i by omega) hqk hpi
            have hf : f = true := by
              rw [m2, List.take_length, List.any_eq_true]
              exact ⟨s, hs1, bne_iff_ne.2 fun e => hs2 e.symm⟩
            subst hf
            repeat (first
              | (show _ ∧ _; exact ⟨rfl, rfl, rfl⟩)
              | refine wkT ?_
              | refine Bs.all ?_
              | (show OpOk _ _ _ _ _ _ _; first | refine opB (fun b => ?_) | refine opA (fun a' c' hc1 hc2 => ?_))
              | (show GJ _ _ _ _ _ _ _; first | (apply GJ.and; exact rfl; intro hg) | (apply GJ.or; exact rfl; intro hg)))
            refine Wk.id ⟨k + 1, ⟨rfl, ?_⟩, ?_, Sub.auto, Sup.auto⟩
            all_goals try dsimp only
            · omega
            · omega
        · repeat (first
            | (show _ ∧ _; exact ⟨rfl, rfl, rfl⟩)
            | refine wkT ?_
            | refine Bs.all ?_
            | (show OpOk _ _ _ _ _ _ _; first | refine opB (fun b => ?_) | refine opA (fun a' c' hc1 hc2 => ?_))
            | (show GJ _ _ _ _ _ _ _; first | (apply GJ.and; exact rfl; intro hg) | (apply GJ.or; exact rfl; intro hg)))
          refine Wk.id ⟨i + 1, ⟨rfl, ?_⟩, ?_, Sub.auto, Sup.auto⟩
          all_goals try dsimp only
          · omega
          · omega
      · repeat (first
          | (show _ ∧ _; exact ⟨rfl, rfl, rfl⟩)
          | refine wkT ?_
          | refine Bs.all ?_
          | (show OpOk _ _ _ _ _ _ _; first | refine opB (fun b => ?_) | refine opA (fun a' c' hc1 hc2 => ?_))
          | (show GJ _ _ _ _ _ _ _; first | (apply GJ.and; exact rfl; intro hg) | (apply GJ.or; exact rfl; intro hg)))
        exact Wk.outV Sup.auto hk rfl
  · repeat (first
      | (show _ ∧ _; exact ⟨rfl, rfl, rfl⟩)
      | refine wkT ?_
      | (show OpOk _ _ _ _ _ _ _; first | refine opB (fun b => ?_) | refine opA (fun a' c' hc1 hc2 => ?_))
      | (show GJ _ _ _ _ _ _ _; first | (apply GJ.and; exact rfl; intro hg) | (apply GJ.or; exact rfl; intro hg)))
    exact Wk.outV Sup.auto hk rfl
end
end Go.Proofs.YtocliedpgdfkoaaDoor
