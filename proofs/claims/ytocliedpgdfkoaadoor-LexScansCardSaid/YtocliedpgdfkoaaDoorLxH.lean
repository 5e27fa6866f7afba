/- Contracts of the reference of lex: Front. -/
import Derived.Test.YtocliedpgdfkoaaDoorLxG
namespace Go.Proofs.YtocliedpgdfkoaaDoor
open Go Go.E
set_option linter.unusedVariables false
set_option linter.unusedSimpArgs false
set_option maxRecDepth 10000
def oneB : List UInt8 := [61, 59, 123, 125, 91, 93, 40, 41, 58, 124, 42, 43, 37]
theorem signs_cut : signsL = [46, 46] :: oneB.map (fun x => [x]) := by decide +kernel
theorem one_prefix (x u : UInt8) (r : List UInt8) : List.isPrefixOf [x] (u :: r) = (x == u) := by simp [List.isPrefixOf]
theorem find_one (u : UInt8) (r : List UInt8) : ∀ l : List UInt8, (l.map (fun x => [x])).find? (·.isPrefixOf (u :: r)) = if u ∈ l then some [u] else none
  | [] => rfl
  | x :: l => by
    rw [List.map_cons, List.find?_cons, one_prefix]
    by_cases h : x = u
    · subst h; simp
    · have : (x == u) = false := by simp [h]
      rw [this]
      simp only
      rw [find_one u r l]
      simp [Ne.symm h]
theorem find_signs (u : UInt8) (r : List UInt8) : signsL.find? (·.isPrefixOf (u :: r)) = if u.toNat = 46 ∧ r.head? = some 46 then some [46, 46] else if u ∈ oneB then some [u] else none := by
  rw [signs_cut, List.find?_cons]
  have e : List.isPrefixOf [46, 46] (u :: r) = decide (u.toNat = 46 ∧ r.head? = some 46) := by
    by_cases h : u.toNat = 46 ∧ r.head? = some 46
    · rw [decide_eq_true h]
      obtain ⟨h1, h2⟩ := h
      obtain rfl : u = 46 := UInt8.toNat_inj.1 (by rw [h1]; rfl)
      cases r with
      | nil => cases h2
      | cons y r => cases h2; rfl
    · rw [decide_eq_false h]
      rw [Bool.eq_false_iff]
      intro hp
      apply h
      cases r with
      | nil => simp [List.isPrefixOf] at hp
      | cons y r =>
        simp [List.isPrefixOf] at hp
        obtain ⟨h1, h2⟩ := hp
        subst h1
        subst h2
        exact ⟨rfl, rfl⟩
  rw [e]
  by_cases h : u.toNat = 46 ∧ r.head? = some 46
  · rw [decide_eq_true h, if_pos h]
  · rw [decide_eq_false h, if_neg h, find_one]
section
variable {ro : Ro} {own r : Chs} {K : Value → Ro → Chs → Prop} {g : Chunk → Chs}
set_option maxHeartbeats 4000000 in
theorem rfront_ok {l : List UInt8} (h0 : l ≠ []) (hl : l.length ≤ 100000) (hk : ∀ k w n code, frontD l = (k, w, n, code) → n ≤ l.length → k ≤ 5 → code ≤ 1000 → (code = 0 → 1 ≤ n) → K (.tuple #[.agg (tokV k 0 w).toArray, .int .i64 ((n : Nat) : Int), .int .i64 ((code : Nat) : Int)]) ro own) : CallOk Tryd.prog 48 #[str l] ro own K := by
  have hpos : 0 < l.length := List.length_pos_iff.2 h0
  obtain ⟨u, hu, hu2, hd⟩ := get_at hpos
  rw [List.drop_zero] at hd
  have hu3 : l[Int.toNat 0]! = u := hu2
  have hun := u.toNat_lt
  have hfr : frontD l = if letB u = true then (if 24 < (l.takeWhile wordB).length then (0, [], 0, 2) else (1, l.takeWhile wordB, (l.takeWhile wordB).length, 0))
    else if digB u = true then (if 20 < (l.takeWhile digB).length then (0, [], 0, 2) else if 1 < (l.takeWhile digB).length ∧ u.toNat = 48 then (0, [], 0, 5) else (2, l.takeWhile digB, (l.takeWhile digB).length, 0))
    else if u.toNat = 47 then (match patD (l.drop 1) with
      | none => (0, [], 0, 5)
      | some w => (3, w, w.length + 2, 0))
    else match (if u.toNat = 46 ∧ (l.drop 1).head? = some 46 then some [46, 46] else if u ∈ oneB then some [u] else none) with
      | some s => (4, s, s.length, 0)
      | none => (0, [], 0, 100) := by
    rw [← find_signs, hd]; rfl
  have hw1 := takeWhile_le wordB l
  have hw2 := takeWhile_le digB l
  have hp1 : letB u = true → 1 ≤ (l.takeWhile wordB).length := fun h => by
    rw [hd, List.takeWhile_cons, show wordB u = true by unfold wordB; rw [h]; rfl]; simp
  have hp2 : digB u = true → 1 ≤ (l.takeWhile digB).length := fun h => by
    rw [hd, List.takeWhile_cons, h]; simp
  have ht1 := takeWhile_take wordB l
  have ht2 := takeWhile_take digB l
  refine CallOk.intro (args := [_]) (rs := [_, _, _]) T_ok Tryd.func48 Tryd.call48 rfl rfl (by kernel_rfl) rfl rfl ?_
  repeat (first
    | (show _ ∧ _; exact ⟨rfl, rfl, rfl⟩)
    | refine wkT ?_
    | refine Bs.all ?_
    | (show RetOk _ _ _ _ _ _; refine RetOk.of (T := T) (RL.row rfl rfl LdN.hasBlk (by rfl) (RL.tmp rfl (RL.tmp rfl RL.nil))) ?_)
    | (show QOk _ _ _ _ _ _ _; refine QOk.build rfl rfl Nf.auto ?_)
    | (show OpOk _ _ _ _ _ _ _; first | refine opB (fun b => ?_) | refine opA (fun a' c' hc1 hc2 => ?_))
    | (show GJ _ _ _ _ _ _ _; first | refine GJ.t (by decide) ?_ | refine GJ.f (by decide) ?_ | refine GJ.ft (by decide) ?_ | refine GJ.ff (by decide) ?_)
    | (show Br _ _ _; first | refine Br.t (by decide) ?_ | refine Br.f (by decide) ?_)
    | (show GJ _ _ _ _ _ _ _; first | (apply GJ.and; exact rfl; intro hg) | (apply GJ.or; exact rfl; intro hg)))
  try rw [hu3]
  refine rletter_ok u _ _ _ ?_
  obtain ⟨x, hx⟩ : ∃ x, letB u = x := ⟨_, rfl⟩
  rw [hx] at hfr hp1 ⊢
  cases x with
  | true =>
    rw [if_pos rfl] at hfr
    have hp1 := hp1 rfl
    repeat (first
      | (show _ ∧ _; exact ⟨rfl, rfl, rfl⟩)
      | refine wkT ?_
      | refine Bs.all ?_
      | (show RetOk _ _ _ _ _ _; refine RetOk.of (T := T) (RL.row rfl rfl LdN.hasBlk (by rfl) (RL.tmp rfl (RL.tmp rfl RL.nil))) ?_)
      | (show QOk _ _ _ _ _ _ _; refine QOk.build rfl rfl Nf.auto ?_)
      | (show OpOk _ _ _ _ _ _ _; first | refine opB (fun b => ?_) | refine opA (fun a' c' hc1 hc2 => ?_))
      | (show GJ _ _ _ _ _ _ _; first | refine GJ.t (by decide) ?_ | refine GJ.f (by decide) ?_ | refine GJ.ft (by decide) ?_ | refine GJ.ff (by decide) ?_)
      | (show Br _ _ _; first | refine Br.t (by decide) ?_ | refine Br.f (by decide) ?_)
      | (show GJ _ _ _ _ _ _ _; first | (apply GJ.and; exact rfl; intro hg) | (apply GJ.or; exact rfl; intro hg)))
    have htw := fun (i : Nat) (v : UInt8) (h : l[i]? = some v) => takeWhile_at (S := wordB) h
    generalize (l.takeWhile wordB).length = m at *
    generalize l.takeWhile wordB = w at *
    refine LoopOk.at (ι := Nat) Keep.auto (fun i => [(5, .int .i64 (i : Int))]) (fun i => .blk b 58 [.int .i64 0, .int .i64 0, str []] :: own) (fun i => i ≤ m) (fun i => m - i) 0 ?_ Sub.auto Sup.auto ?_
    · exact Nat.zero_le _
    rintro i i1
    dsimp only [List.cons_append, List.nil_append] at i1 ⊢
    by_cases hb : i < l.length
    · obtain ⟨v, hv, hv2, hvd⟩ := get_at hb
      have htv := htw i v hv
      have hwd : wordB v = (letB v || digB v) := rfl
      repeat (first
        | (show _ ∧ _; exact ⟨rfl, rfl, rfl⟩)
        | refine wkT ?_
        | refine Bs.all ?_
        | (show RetOk _ _ _ _ _ _; refine RetOk.of (T := T) (RL.row rfl rfl LdN.hasBlk (by rfl) (RL.tmp rfl (RL.tmp rfl RL.nil))) ?_)
        | (show QOk _ _ _ _ _ _ _; refine QOk.build rfl rfl Nf.auto ?_)
        | (show OpOk _ _ _ _ _ _ _; first | refine opB (fun b => ?_) | refine opA (fun a' c' hc1 hc2 => ?_))
        | (show GJ _ _ _ _ _ _ _; first | refine GJ.t (by decide) ?_ | refine GJ.f (by decide) ?_ | refine GJ.ft (by decide) ?_ | refine GJ.ff (by decide) ?_)
        | (show Br _ _ _; first | refine Br.t (by decide) ?_ | refine Br.f (by decide) ?_)
        | (show GJ _ _ _ _ _ _ _; first | (apply GJ.and; exact rfl; intro hg) | (apply GJ.or; exact rfl; intro hg)))
      try rw [hv2]
      refine rletter_ok v _ _ _ ?_
      obtain ⟨y, hy⟩ : ∃ y, letB v = y := ⟨_, rfl⟩
      rw [hy] at hwd ⊢
      cases y with
      | true =>
        rw [hwd] at htv
        have : i ≠ m := fun e => by have := htv.2 e; cases this
        repeat (first
          | (show _ ∧ _; exact ⟨rfl, rfl, rfl⟩)
          | refine wkT ?_
          | refine Bs.all ?_
          | (show RetOk _ _ _ _ _ _; refine RetOk.of (T := T) (RL.row rfl rfl LdN.hasBlk (by rfl) (RL.tmp rfl (RL.tmp rfl RL.nil))) ?_)
          | (show QOk _ _ _ _ _ _ _; refine QOk.build rfl rfl Nf.auto ?_)
          | (show OpOk _ _ _ _ _ _ _; first | refine opB (fun b => ?_) | refine opA (fun a' c' hc1 hc2 => ?_))
          | (show GJ _ _ _ _ _ _ _; first | refine GJ.t (by decide) ?_ | refine GJ.f (by decide) ?_ | refine GJ.ft (by decide) ?_ | refine GJ.ff (by decide) ?_)
          | (show Br _ _ _; first | refine Br.t (by decide) ?_ | refine Br.f (by decide) ?_)
          | (show GJ _ _ _ _ _ _ _; first | (apply GJ.and; exact rfl; intro hg) | (apply GJ.or; exact rfl; intro hg)))
        refine Wk.id ⟨i + 1, ⟨rfl, ?_⟩, ?_, Sub.auto, Sup.auto⟩
        all_goals try dsimp only
        · omega
        · omega
      | false =>
        repeat (first
          | (show _ ∧ _; exact ⟨rfl, rfl, rfl⟩)
          | refine wkT ?_
          | refine Bs.all ?_
          | (show RetOk _ _ _ _ _ _; refine RetOk.of (T := T) (RL.row rfl rfl LdN.hasBlk (by rfl) (RL.tmp rfl (RL.tmp rfl RL.nil))) ?_)
          | (show QOk _ _ _ _ _ _ _; refine QOk.build rfl rfl Nf.auto ?_)
          | (show OpOk _ _ _ _ _ _ _; first | refine opB (fun b => ?_) | refine opA (fun a' c' hc1 hc2 => ?_))
          | (show GJ _ _ _ _ _ _ _; first | refine GJ.t (by decide) ?_ | refine GJ.f (by decide) ?_ | refine GJ.ft (by decide) ?_ | refine GJ.ff (by decide) ?_)
          | (show Br _ _ _; first | refine Br.t (by decide) ?_ | refine Br.f (by decide) ?_)
          | (show GJ _ _ _ _ _ _ _; first | (apply GJ.and; exact rfl; intro hg) | (apply GJ.or; exact rfl; intro hg)))
        try rw [hv2]
        refine rdigit_ok v _ _ _ ?_
        obtain ⟨z, hz⟩ : ∃ z, digB v = z := ⟨_, rfl⟩
        rw [hz] at hwd ⊢
        rw [hwd] at htv
        cases z with
        | true =>
          have : i ≠ m := fun e => by have := htv.2 e; cases this
          repeat (first
            | (show _ ∧ _; exact ⟨rfl, rfl, rfl⟩)
            | refine wkT ?_
            | refine Bs.all ?_
            | (show RetOk _ _ _ _ _ _; refine RetOk.of (T := T) (RL.row rfl rfl LdN.hasBlk (by rfl) (RL.tmp rfl (RL.tmp rfl RL.nil))) ?_)
            | (show QOk _ _ _ _ _ _ _; refine QOk.build rfl rfl Nf.auto ?_)
            | (show OpOk _ _ _ _ _ _ _; first | refine opB (fun b => ?_) | refine opA (fun a' c' hc1 hc2 => ?_))
            | (show GJ _ _ _ _ _ _ _; first | refine GJ.t (by decide) ?_ | refine GJ.f (by decide) ?_ | refine GJ.ft (by decide) ?_ | refine GJ.ff (by decide) ?_)
            | (show Br _ _ _; first | refine Br.t (by decide) ?_ | refine Br.f (by decide) ?_)
            | (show GJ _ _ _ _ _ _ _; first | (apply GJ.and; exact rfl; intro hg) | (apply GJ.or; exact rfl; intro hg)))
          refine Wk.id ⟨i + 1, ⟨rfl, ?_⟩, ?_, Sub.auto, Sup.auto⟩
          all_goals try dsimp only
          · omega
          · omega
        | false =>
          have : i = m := by
            apply Classical.byContradiction
            intro e
            have := htv.1 (by omega)
            cases this
          subst this
          repeat (first
            | (show _ ∧ _; exact ⟨rfl, rfl, rfl⟩)
            | refine wkT ?_
            | refine Bs.all ?_
            | (show RetOk _ _ _ _ _ _; refine RetOk.of (T := T) (RL.row rfl rfl LdN.hasBlk (by rfl) (RL.tmp rfl (RL.tmp rfl RL.nil))) ?_)
            | (show QOk _ _ _ _ _ _ _; refine QOk.build rfl rfl Nf.auto ?_)
            | (show OpOk _ _ _ _ _ _ _; first | refine opB (fun b => ?_) | refine opA (fun a' c' hc1 hc2 => ?_))
            | (show GJ _ _ _ _ _ _ _; first | refine GJ.t (by decide) ?_ | refine GJ.f (by decide) ?_ | refine GJ.ft (by decide) ?_ | refine GJ.ff (by decide) ?_)
            | (show Br _ _ _; first | refine Br.t (by decide) ?_ | refine Br.f (by decide) ?_)
            | (show GJ _ _ _ _ _ _ _; first | (apply GJ.and; exact rfl; intro hg) | (apply GJ.or; exact rfl; intro hg)))
          have hcut : List.take ((i : Nat) : Int).toNat l = w := by rw [Int.toNat_natCast]; exact ht1.symm
          by_cases hg : 24 < i
          · rw [if_pos hg] at hfr
            have hk := hk _ _ _ _ hfr (by omega) (by omega) (by omega) (by omega)
            repeat (first
              | (show _ ∧ _; exact ⟨rfl, rfl, rfl⟩)
              | refine wkT ?_
              | refine Bs.all ?_
              | (show RetOk _ _ _ _ _ _; refine RetOk.of (T := T) (RL.row rfl rfl LdN.hasBlk (by rfl) (RL.tmp rfl (RL.tmp rfl RL.nil))) ?_)
              | (show QOk _ _ _ _ _ _ _; refine QOk.build rfl rfl Nf.auto ?_)
              | (show OpOk _ _ _ _ _ _ _; first | refine opB (fun b => ?_) | refine opA (fun a' c' hc1 hc2 => ?_))
              | (show GJ _ _ _ _ _ _ _; first | refine GJ.t (by decide) ?_ | refine GJ.f (by decide) ?_ | refine GJ.ft (by decide) ?_ | refine GJ.ff (by decide) ?_)
              | (show Br _ _ _; first | refine Br.t (by decide) ?_ | refine Br.f (by decide) ?_)
              | (show GJ _ _ _ _ _ _ _; first | (apply GJ.and; exact rfl; intro hg) | (apply GJ.or; exact rfl; intro hg)))
            exact Wk.outS Sup.auto (.refl _) hk
          · rw [if_neg hg] at hfr
            have hk := hk _ _ _ _ hfr (by omega) (by omega) (by omega) (by omega)
            repeat (first
              | (show _ ∧ _; exact ⟨rfl, rfl, rfl⟩)
              | refine wkT ?_
              | refine Bs.all ?_
              | (show RetOk _ _ _ _ _ _; refine RetOk.of (T := T) (RL.row rfl rfl LdN.hasBlk (by rfl) (RL.tmp rfl (RL.tmp rfl RL.nil))) ?_)
              | (show QOk _ _ _ _ _ _ _; refine QOk.build rfl rfl Nf.auto ?_)
              | (show OpOk _ _ _ _ _ _ _; first | refine opB (fun b => ?_) | refine opA (fun a' c' hc1 hc2 => ?_))
              | (show GJ _ _ _ _ _ _ _; first | refine GJ.t (by decide) ?_ | refine GJ.f (by decide) ?_ | refine GJ.ft (by decide) ?_ | refine GJ.ff (by decide) ?_)
              | (show Br _ _ _; first | refine Br.t (by decide) ?_ | refine Br.f (by decide) ?_)
              | (show GJ _ _ _ _ _ _ _; first | (apply GJ.and; exact rfl; intro hg) | (apply GJ.or; exact rfl; intro hg)))
            try rw [hcut]
            repeat (first
              | (show _ ∧ _; exact ⟨rfl, rfl, rfl⟩)
              | refine wkT ?_
              | refine Bs.all ?_
              | (show RetOk _ _ _ _ _ _; refine RetOk.of (T := T) (RL.row rfl rfl LdN.hasBlk (by rfl) (RL.tmp rfl (RL.tmp rfl RL.nil))) ?_)
              | (show QOk _ _ _ _ _ _ _; refine QOk.build rfl rfl Nf.auto ?_)
              | (show OpOk _ _ _ _ _ _ _; first | refine opB (fun b => ?_) | refine opA (fun a' c' hc1 hc2 => ?_))
              | (show GJ _ _ _ _ _ _ _; first | refine GJ.t (by decide) ?_ | refine GJ.f (by decide) ?_ | refine GJ.ft (by decide) ?_ | refine GJ.ff (by decide) ?_)
              | (show Br _ _ _; first | refine Br.t (by decide) ?_ | refine Br.f (by decide) ?_)
              | (show GJ _ _ _ _ _ _ _; first | (apply GJ.and; exact rfl; intro hg) | (apply GJ.or; exact rfl; intro hg)))
            exact Wk.outS Sup.auto (.refl _) hk
    · obtain rfl : i = m := by omega
      repeat (first
        | (show _ ∧ _; exact ⟨rfl, rfl, rfl⟩)
        | refine wkT ?_
        | refine Bs.all ?_
        | (show RetOk _ _ _ _ _ _; refine RetOk.of (T := T) (RL.row rfl rfl LdN.hasBlk (by rfl) (RL.tmp rfl (RL.tmp rfl RL.nil))) ?_)
        | (show QOk _ _ _ _ _ _ _; refine QOk.build rfl rfl Nf.auto ?_)
        | (show OpOk _ _ _ _ _ _ _; first | refine opB (fun b => ?_) | refine opA (fun a' c' hc1 hc2 => ?_))
        | (show GJ _ _ _ _ _ _ _; first | refine GJ.t (by decide) ?_ | refine GJ.f (by decide) ?_ | refine GJ.ft (by decide) ?_ | refine GJ.ff (by decide) ?_)
        | (show Br _ _ _; first | refine Br.t (by decide) ?_ | refine Br.f (by decide) ?_)
        | (show GJ _ _ _ _ _ _ _; first | (apply GJ.and; exact rfl; intro hg) | (apply GJ.or; exact rfl; intro hg)))
      have hcut : List.take ((i : Nat) : Int).toNat l = w := by rw [Int.toNat_natCast]; exact ht1.symm
      by_cases hg : 24 < i
      · rw [if_pos hg] at hfr
        have hk := hk _ _ _ _ hfr (by omega) (by omega) (by omega) (by omega)
        repeat (first
          | (show _ ∧ _; exact ⟨rfl, rfl, rfl⟩)
          | refine wkT ?_
          | refine Bs.all ?_
          | (show RetOk _ _ _ _ _ _; refine RetOk.of (T := T) (RL.row rfl rfl LdN.hasBlk (by rfl) (RL.tmp rfl (RL.tmp rfl RL.nil))) ?_)
          | (show QOk _ _ _ _ _ _ _; refine QOk.build rfl rfl Nf.auto ?_)
          | (show OpOk _ _ _ _ _ _ _; first | refine opB (fun b => ?_) | refine opA (fun a' c' hc1 hc2 => ?_))
          | (show GJ _ _ _ _ _ _ _; first | refine GJ.t (by decide) ?_ | refine GJ.f (by decide) ?_ | refine GJ.ft (by decide) ?_ | refine GJ.ff (by decide) ?_)
          | (show Br _ _ _; first | refine Br.t (by decide) ?_ | refine Br.f (by decide) ?_)
          | (show GJ _ _ _ _ _ _ _; first | (apply GJ.and; exact rfl; intro hg) | (apply GJ.or; exact rfl; intro hg)))
        exact Wk.outS Sup.auto (.refl _) hk
      · rw [if_neg hg] at hfr
        have hk := hk _ _ _ _ hfr (by omega) (by omega) (by omega) (by omega)
        repeat (first
          | (show _ ∧ _; exact ⟨rfl, rfl, rfl⟩)
          | refine wkT ?_
          | refine Bs.all ?_
          | (show RetOk _ _ _ _ _ _; refine RetOk.of (T := T) (RL.row rfl rfl LdN.hasBlk (by rfl) (RL.tmp rfl (RL.tmp rfl RL.nil))) ?_)
          | (show QOk _ _ _ _ _ _ _; refine QOk.build rfl rfl Nf.auto ?_)
          | (show OpOk _ _ _ _ _ _ _; first | refine opB (fun b => ?_) | refine opA (fun a' c' hc1 hc2 => ?_))
          | (show GJ _ _ _ _ _ _ _; first | refine GJ.t (by decide) ?_ | refine GJ.f (by decide) ?_ | refine GJ.ft (by decide) ?_ | refine GJ.ff (by decide) ?_)
          | (show Br _ _ _; first | refine Br.t (by decide) ?_ | refine Br.f (by decide) ?_)
          | (show GJ _ _ _ _ _ _ _; first | (apply GJ.and; exact rfl; intro hg) | (apply GJ.or; exact rfl; intro hg)))
        try rw [hcut]
        repeat (first
          | (show _ ∧ _; exact ⟨rfl, rfl, rfl⟩)
          | refine wkT ?_
          | refine Bs.all ?_
          | (show RetOk _ _ _ _ _ _; refine RetOk.of (T := T) (RL.row rfl rfl LdN.hasBlk (by rfl) (RL.tmp rfl (RL.tmp rfl RL.nil))) ?_)
          | (show QOk _ _ _ _ _ _ _; refine QOk.build rfl rfl Nf.auto ?_)
          | (show OpOk _ _ _ _ _ _ _; first | refine opB (fun b => ?_) | refine opA (fun a' c' hc1 hc2 => ?_))
          | (show GJ _ _ _ _ _ _ _; first | refine GJ.t (by decide) ?_ | refine GJ.f (by decide) ?_ | refine GJ.ft (by decide) ?_ | refine GJ.ff (by decide) ?_)
          | (show Br _ _ _; first | refine Br.t (by decide) ?_ | refine Br.f (by decide) ?_)
          | (show GJ _ _ _ _ _ _ _; first | (apply GJ.and; exact rfl; intro hg) | (apply GJ.or; exact rfl; intro hg)))
        exact Wk.outS Sup.auto (.refl _) hk
  | false =>
    rw [if_neg (by simp)] at hfr
    repeat (first
      | (show _ ∧ _; exact ⟨rfl, rfl, rfl⟩)
      | refine wkT ?_
      | refine Bs.all ?_
      | (show RetOk _ _ _ _ _ _; refine RetOk.of (T := T) (RL.row rfl rfl LdN.hasBlk (by rfl) (RL.tmp rfl (RL.tmp rfl RL.nil))) ?_)
      | (show QOk _ _ _ _ _ _ _; refine QOk.build rfl rfl Nf.auto ?_)
      | (show OpOk _ _ _ _ _ _ _; first | refine opB (fun b => ?_) | refine opA (fun a' c' hc1 hc2 => ?_))
      | (show GJ _ _ _ _ _ _ _; first | refine GJ.t (by decide) ?_ | refine GJ.f (by decide) ?_ | refine GJ.ft (by decide) ?_ | refine GJ.ff (by decide) ?_)
      | (show Br _ _ _; first | refine Br.t (by decide) ?_ | refine Br.f (by decide) ?_)
      | (show GJ _ _ _ _ _ _ _; first | (apply GJ.and; exact rfl; intro hg) | (apply GJ.or; exact rfl; intro hg)))
    try rw [hu3]
    refine rdigit_ok u _ _ _ ?_
    obtain ⟨y, hy⟩ : ∃ y, digB u = y := ⟨_, rfl⟩
    rw [hy] at hfr hp2 ⊢
    cases y with
    | true =>
      rw [if_pos rfl] at hfr
      have hp2 := hp2 rfl
      repeat (first
        | (show _ ∧ _; exact ⟨rfl, rfl, rfl⟩)
        | refine wkT ?_
        | refine Bs.all ?_
        | (show RetOk _ _ _ _ _ _; refine RetOk.of (T := T) (RL.row rfl rfl LdN.hasBlk (by rfl) (RL.tmp rfl (RL.tmp rfl RL.nil))) ?_)
        | (show QOk _ _ _ _ _ _ _; refine QOk.build rfl rfl Nf.auto ?_)
        | (show OpOk _ _ _ _ _ _ _; first | refine opB (fun b => ?_) | refine opA (fun a' c' hc1 hc2 => ?_))
        | (show GJ _ _ _ _ _ _ _; first | refine GJ.t (by decide) ?_ | refine GJ.f (by decide) ?_ | refine GJ.ft (by decide) ?_ | refine GJ.ff (by decide) ?_)
        | (show Br _ _ _; first | refine Br.t (by decide) ?_ | refine Br.f (by decide) ?_)
        | (show GJ _ _ _ _ _ _ _; first | (apply GJ.and; exact rfl; intro hg) | (apply GJ.or; exact rfl; intro hg)))
      have htw := fun (i : Nat) (v : UInt8) (h : l[i]? = some v) => takeWhile_at (S := digB) h
      generalize (l.takeWhile digB).length = m at *
      generalize l.takeWhile digB = w at *
      refine LoopOk.at (ι := Nat) Keep.auto (fun i => [(5, .int .i64 (i : Int))]) (fun i => .blk b 58 [.int .i64 0, .int .i64 0, str []] :: own) (fun i => i ≤ m) (fun i => m - i) 0 ?_ Sub.auto Sup.auto ?_
      · exact Nat.zero_le _
      rintro i i1
      dsimp only [List.cons_append, List.nil_append] at i1 ⊢
      by_cases hb : i < l.length
      · obtain ⟨v, hv, hv2, hvd⟩ := get_at hb
        have htv := htw i v hv
        repeat (first
          | (show _ ∧ _; exact ⟨rfl, rfl, rfl⟩)
          | refine wkT ?_
          | refine Bs.all ?_
          | (show RetOk _ _ _ _ _ _; refine RetOk.of (T := T) (RL.row rfl rfl LdN.hasBlk (by rfl) (RL.tmp rfl (RL.tmp rfl RL.nil))) ?_)
          | (show QOk _ _ _ _ _ _ _; refine QOk.build rfl rfl Nf.auto ?_)
          | (show OpOk _ _ _ _ _ _ _; first | refine opB (fun b => ?_) | refine opA (fun a' c' hc1 hc2 => ?_))
          | (show GJ _ _ _ _ _ _ _; first | refine GJ.t (by decide) ?_ | refine GJ.f (by decide) ?_ | refine GJ.ft (by decide) ?_ | refine GJ.ff (by decide) ?_)
          | (show Br _ _ _; first | refine Br.t (by decide) ?_ | refine Br.f (by decide) ?_)
          | (show GJ _ _ _ _ _ _ _; first | (apply GJ.and; exact rfl; intro hg) | (apply GJ.or; exact rfl; intro hg)))
        try rw [hv2]
        refine rdigit_ok v _ _ _ ?_
        obtain ⟨z, hz⟩ : ∃ z, digB v = z := ⟨_, rfl⟩
        rw [hz] at htv ⊢
        cases z with
        | true =>
          have : i ≠ m := fun e => by have := htv.2 e; cases this
          repeat (first
            | (show _ ∧ _; exact ⟨rfl, rfl, rfl⟩)
            | refine wkT ?_
            | refine Bs.all ?_
            | (show RetOk _ _ _ _ _ _; refine RetOk.of (T := T) (RL.row rfl rfl LdN.hasBlk (by rfl) (RL.tmp rfl (RL.tmp rfl RL.nil))) ?_)
            | (show QOk _ _ _ _ _ _ _; refine QOk.build rfl rfl Nf.auto ?_)
            | (show OpOk _ _ _ _ _ _ _; first | refine opB (fun b => ?_) | refine opA (fun a' c' hc1 hc2 => ?_))
            | (show GJ _ _ _ _ _ _ _; first | refine GJ.t (by decide) ?_ | refine GJ.f (by decide) ?_ | refine GJ.ft (by decide) ?_ | refine GJ.ff (by decide) ?_)
            | (show Br _ _ _; first | refine Br.t (by decide) ?_ | refine Br.f (by decide) ?_)
            | (show GJ _ _ _ _ _ _ _; first | (apply GJ.and; exact rfl; intro hg) | (apply GJ.or; exact rfl; intro hg)))
          refine Wk.id ⟨i + 1, ⟨rfl, ?_⟩, ?_, Sub.auto, Sup.auto⟩
          all_goals try dsimp only
          · omega
          · omega
        | false =>
          have : i = m := by
            apply Classical.byContradiction
            intro e
            have := htv.1 (by omega)
            cases this
          subst this
          repeat (first
            | (show _ ∧ _; exact ⟨rfl, rfl, rfl⟩)
            | refine wkT ?_
            | refine Bs.all ?_
            | (show RetOk _ _ _ _ _ _; refine RetOk.of (T := T) (RL.row rfl rfl LdN.hasBlk (by rfl) (RL.tmp rfl (RL.tmp rfl RL.nil))) ?_)
            | (show QOk _ _ _ _ _ _ _; refine QOk.build rfl rfl Nf.auto ?_)
            | (show OpOk _ _ _ _ _ _ _; first | refine opB (fun b => ?_) | refine opA (fun a' c' hc1 hc2 => ?_))
            | (show GJ _ _ _ _ _ _ _; first | refine GJ.t (by decide) ?_ | refine GJ.f (by decide) ?_ | refine GJ.ft (by decide) ?_ | refine GJ.ff (by decide) ?_)
            | (show Br _ _ _; first | refine Br.t (by decide) ?_ | refine Br.f (by decide) ?_)
            | (show GJ _ _ _ _ _ _ _; first | (apply GJ.and; exact rfl; intro hg) | (apply GJ.or; exact rfl; intro hg)))
          have hcut : List.take ((i : Nat) : Int).toNat l = w := by rw [Int.toNat_natCast]; exact ht2.symm
          by_cases hg : 20 < i
          · rw [if_pos hg] at hfr
            have hk := hk _ _ _ _ hfr (by omega) (by omega) (by omega) (by omega)
            repeat (first
              | (show _ ∧ _; exact ⟨rfl, rfl, rfl⟩)
              | refine wkT ?_
              | refine Bs.all ?_
              | (show RetOk _ _ _ _ _ _; refine RetOk.of (T := T) (RL.row rfl rfl LdN.hasBlk (by rfl) (RL.tmp rfl (RL.tmp rfl RL.nil))) ?_)
              | (show QOk _ _ _ _ _ _ _; refine QOk.build rfl rfl Nf.auto ?_)
              | (show OpOk _ _ _ _ _ _ _; first | refine opB (fun b => ?_) | refine opA (fun a' c' hc1 hc2 => ?_))
              | (show GJ _ _ _ _ _ _ _; first | refine GJ.t (by decide) ?_ | refine GJ.f (by decide) ?_ | refine GJ.ft (by decide) ?_ | refine GJ.ff (by decide) ?_)
              | (show Br _ _ _; first | refine Br.t (by decide) ?_ | refine Br.f (by decide) ?_)
              | (show GJ _ _ _ _ _ _ _; first | (apply GJ.and; exact rfl; intro hg) | (apply GJ.or; exact rfl; intro hg)))
            exact Wk.outS Sup.auto (.refl _) hk
          · rw [if_neg hg] at hfr
            by_cases hg1 : 1 < i
            · by_cases h48 : u.toNat = 48
              · rw [if_pos ⟨hg1, h48⟩] at hfr
                have hk := hk _ _ _ _ hfr (by omega) (by omega) (by omega) (by omega)
                repeat (first
                  | (show _ ∧ _; exact ⟨rfl, rfl, rfl⟩)
                  | refine wkT ?_
                  | refine Bs.all ?_
                  | (show RetOk _ _ _ _ _ _; refine RetOk.of (T := T) (RL.row rfl rfl LdN.hasBlk (by rfl) (RL.tmp rfl (RL.tmp rfl RL.nil))) ?_)
                  | (show QOk _ _ _ _ _ _ _; refine QOk.build rfl rfl Nf.auto ?_)
                  | (show OpOk _ _ _ _ _ _ _; first | refine opB (fun b => ?_) | refine opA (fun a' c' hc1 hc2 => ?_))
                  | (show GJ _ _ _ _ _ _ _; first | refine GJ.t (by decide) ?_ | refine GJ.f (by decide) ?_ | refine GJ.ft (by decide) ?_ | refine GJ.ff (by decide) ?_)
                  | (show Br _ _ _; first | refine Br.t (by decide) ?_ | refine Br.f (by decide) ?_)
                  | (show GJ _ _ _ _ _ _ _; first | (apply GJ.and; exact rfl; intro hg) | (apply GJ.or; exact rfl; intro hg)))
                try rw [hu3]
                repeat (first
                  | (show _ ∧ _; exact ⟨rfl, rfl, rfl⟩)
                  | refine wkT ?_
                  | refine Bs.all ?_
                  | (show RetOk _ _ _ _ _ _; refine RetOk.of (T := T) (RL.row rfl rfl LdN.hasBlk (by rfl) (RL.tmp rfl (RL.tmp rfl RL.nil))) ?_)
                  | (show QOk _ _ _ _ _ _ _; refine QOk.build rfl rfl Nf.auto ?_)
                  | (show OpOk _ _ _ _ _ _ _; first | refine opB (fun b => ?_) | refine opA (fun a' c' hc1 hc2 => ?_))
                  | (show GJ _ _ _ _ _ _ _; first | refine GJ.t (by decide) ?_ | refine GJ.f (by decide) ?_ | refine GJ.ft (by decide) ?_ | refine GJ.ff (by decide) ?_)
                  | (show Br _ _ _; first | refine Br.t (by decide) ?_ | refine Br.f (by decide) ?_)
                  | (show GJ _ _ _ _ _ _ _; first | (apply GJ.and; exact rfl; intro hg) | (apply GJ.or; exact rfl; intro hg)))
                exact Wk.outS Sup.auto (.refl _) hk
              · rw [if_neg (fun h => h48 h.2)] at hfr
                have hk := hk _ _ _ _ hfr (by omega) (by omega) (by omega) (by omega)
                repeat (first
                  | (show _ ∧ _; exact ⟨rfl, rfl, rfl⟩)
                  | refine wkT ?_
                  | refine Bs.all ?_
                  | (show RetOk _ _ _ _ _ _; refine RetOk.of (T := T) (RL.row rfl rfl LdN.hasBlk (by rfl) (RL.tmp rfl (RL.tmp rfl RL.nil))) ?_)
                  | (show QOk _ _ _ _ _ _ _; refine QOk.build rfl rfl Nf.auto ?_)
                  | (show OpOk _ _ _ _ _ _ _; first | refine opB (fun b => ?_) | refine opA (fun a' c' hc1 hc2 => ?_))
                  | (show GJ _ _ _ _ _ _ _; first | refine GJ.t (by decide) ?_ | refine GJ.f (by decide) ?_ | refine GJ.ft (by decide) ?_ | refine GJ.ff (by decide) ?_)
                  | (show Br _ _ _; first | refine Br.t (by decide) ?_ | refine Br.f (by decide) ?_)
                  | (show GJ _ _ _ _ _ _ _; first | (apply GJ.and; exact rfl; intro hg) | (apply GJ.or; exact rfl; intro hg)))
                try rw [hu3]
                repeat (first
                  | (show _ ∧ _; exact ⟨rfl, rfl, rfl⟩)
                  | refine wkT ?_
                  | refine Bs.all ?_
                  | (show RetOk _ _ _ _ _ _; refine RetOk.of (T := T) (RL.row rfl rfl LdN.hasBlk (by rfl) (RL.tmp rfl (RL.tmp rfl RL.nil))) ?_)
                  | (show QOk _ _ _ _ _ _ _; refine QOk.build rfl rfl Nf.auto ?_)
                  | (show OpOk _ _ _ _ _ _ _; first | refine opB (fun b => ?_) | refine opA (fun a' c' hc1 hc2 => ?_))
                  | (show GJ _ _ _ _ _ _ _; first | refine GJ.t (by decide) ?_ | refine GJ.f (by decide) ?_ | refine GJ.ft (by decide) ?_ | refine GJ.ff (by decide) ?_)
                  | (show Br _ _ _; first | refine Br.t (by decide) ?_ | refine Br.f (by decide) ?_)
                  | (show GJ _ _ _ _ _ _ _; first | (apply GJ.and; exact rfl; intro hg) | (apply GJ.or; exact rfl; intro hg)))
                try rw [hcut]
                repeat (first
                  | (show _ ∧ _; exact ⟨rfl, rfl, rfl⟩)
                  | refine wkT ?_
                  | refine Bs.all ?_
                  | (show RetOk _ _ _ _ _ _; refine RetOk.of (T := T) (RL.row rfl rfl LdN.hasBlk (by rfl) (RL.tmp rfl (RL.tmp rfl RL.nil))) ?_)
                  | (show QOk _ _ _ _ _ _ _; refine QOk.build rfl rfl Nf.auto ?_)
                  | (show OpOk _ _ _ _ _ _ _; first | refine opB (fun b => ?_) | refine opA (fun a' c' hc1 hc2 => ?_))
                  | (show GJ _ _ _ _ _ _ _; first | refine GJ.t (by decide) ?_ | refine GJ.f (by decide) ?_ | refine GJ.ft (by decide) ?_ | refine GJ.ff (by decide) ?_)
                  | (show Br _ _ _; first | refine Br.t (by decide) ?_ | refine Br.f (by decide) ?_)
                  | (show GJ _ _ _ _ _ _ _; first | (apply GJ.and; exact rfl; intro hg) | (apply GJ.or; exact rfl; intro hg)))
                exact Wk.outS Sup.auto (.refl _) hk
            · rw [if_neg (fun h => hg1 h.1)] at hfr
              have hk := hk _ _ _ _ hfr (by omega) (by omega) (by omega) (by omega)
              repeat (first
                | (show _ ∧ _; exact ⟨rfl, rfl, rfl⟩)
                | refine wkT ?_
                | refine Bs.all ?_
                | (show RetOk _ _ _ _ _ _; refine RetOk.of (T := T) (RL.row rfl rfl LdN.hasBlk (by rfl) (RL.tmp rfl (RL.tmp rfl RL.nil))) ?_)
                | (show QOk _ _ _ _ _ _ _; refine QOk.build rfl rfl Nf.auto ?_)
                | (show OpOk _ _ _ _ _ _ _; first | refine opB (fun b => ?_) | refine opA (fun a' c' hc1 hc2 => ?_))
                | (show GJ _ _ _ _ _ _ _; first | refine GJ.t (by decide) ?_ | refine GJ.f (by decide) ?_ | refine GJ.ft (by decide) ?_ | refine GJ.ff (by decide) ?_)
                | (show Br _ _ _; first | refine Br.t (by decide) ?_ | refine Br.f (by decide) ?_)
                | (show GJ _ _ _ _ _ _ _; first | (apply GJ.and; exact rfl; intro hg) | (apply GJ.or; exact rfl; intro hg)))
              try rw [hcut]
              repeat (first
                | (show _ ∧ _; exact ⟨rfl, rfl, rfl⟩)
                | refine wkT ?_
                | refine Bs.all ?_
                | (show RetOk _ _ _ _ _ _; refine RetOk.of (T := T) (RL.row rfl rfl LdN.hasBlk (by rfl) (RL.tmp rfl (RL.tmp rfl RL.nil))) ?_)
                | (show QOk _ _ _ _ _ _ _; refine QOk.build rfl rfl Nf.auto ?_)
                | (show OpOk _ _ _ _ _ _ _; first | refine opB (fun b => ?_) | refine opA (fun a' c' hc1 hc2 => ?_))
                | (show GJ _ _ _ _ _ _ _; first | refine GJ.t (by decide) ?_ | refine GJ.f (by decide) ?_ | refine GJ.ft (by decide) ?_ | refine GJ.ff (by decide) ?_)
                | (show Br _ _ _; first | refine Br.t (by decide) ?_ | refine Br.f (by decide) ?_)
                | (show GJ _ _ _ _ _ _ _; first | (apply GJ.and; exact rfl; intro hg) | (apply GJ.or; exact rfl; intro hg)))
              exact Wk.outS Sup.auto (.refl _) hk
      · obtain rfl : i = m := by omega
        repeat (first
          | (show _ ∧ _; exact ⟨rfl, rfl, rfl⟩)
          | refine wkT ?_
          | refine Bs.all ?_
          | (show RetOk _ _ _ _ _ _; refine RetOk.of (T := T) (RL.row rfl rfl LdN.hasBlk (by rfl) (RL.tmp rfl (RL.tmp rfl RL.nil))) ?_)
          | (show QOk _ _ _ _ _ _ _; refine QOk.build rfl rfl Nf.auto ?_)
          | (show OpOk _ _ _ _ _ _ _; first | refine opB (fun b => ?_) | refine opA (fun a' c' hc1 hc2 => ?_))
          | (show GJ _ _ _ _ _ _ _; first | refine GJ.t (by decide) ?_ | refine GJ.f (by decide) ?_ | refine GJ.ft (by decide) ?_ | refine GJ.ff (by decide) ?_)
          | (show Br _ _ _; first | refine Br.t (by decide) ?_ | refine Br.f (by decide) ?_)
          | (show GJ _ _ _ _ _ _ _; first | (apply GJ.and; exact rfl; intro hg) | (apply GJ.or; exact rfl; intro hg)))
        have hcut : List.take ((i : Nat) : Int).toNat l = w := by rw [Int.toNat_natCast]; exact ht2.symm
        by_cases hg : 20 < i
        · rw [if_pos hg] at hfr
          have hk := hk _ _ _ _ hfr (by omega) (by omega) (by omega) (by omega)
          repeat (first
            | (show _ ∧ _; exact ⟨rfl, rfl, rfl⟩)
            | refine wkT ?_
            | refine Bs.all ?_
            | (show RetOk _ _ _ _ _ _; refine RetOk.of (T := T) (RL.row rfl rfl LdN.hasBlk (by rfl) (RL.tmp rfl (RL.tmp rfl RL.nil))) ?_)
            | (show QOk _ _ _ _ _ _ _; refine QOk.build rfl rfl Nf.auto ?_)
            | (show OpOk _ _ _ _ _ _ _; first | refine opB (fun b => ?_) | refine opA (fun a' c' hc1 hc2 => ?_))
            | (show GJ _ _ _ _ _ _ _; first | refine GJ.t (by decide) ?_ | refine GJ.f (by decide) ?_ | refine GJ.ft (by decide) ?_ | refine GJ.ff (by decide) ?_)
            | (show Br _ _ _; first | refine Br.t (by decide) ?_ | refine Br.f (by decide) ?_)
            | (show GJ _ _ _ _ _ _ _; first | (apply GJ.and; exact rfl; intro hg) | (apply GJ.or; exact rfl; intro hg)))
          exact Wk.outS Sup.auto (.refl _) hk
        · rw [if_neg hg] at hfr
          by_cases hg1 : 1 < i
          · by_cases h48 : u.toNat = 48
            · rw [if_pos ⟨hg1, h48⟩] at hfr
              have hk := hk _ _ _ _ hfr (by omega) (by omega) (by omega) (by omega)
              repeat (first
                | (show _ ∧ _; exact ⟨rfl, rfl, rfl⟩)
                | refine wkT ?_
                | refine Bs.all ?_
                | (show RetOk _ _ _ _ _ _; refine RetOk.of (T := T) (RL.row rfl rfl LdN.hasBlk (by rfl) (RL.tmp rfl (RL.tmp rfl RL.nil))) ?_)
                | (show QOk _ _ _ _ _ _ _; refine QOk.build rfl rfl Nf.auto ?_)
                | (show OpOk _ _ _ _ _ _ _; first | refine opB (fun b => ?_) | refine opA (fun a' c' hc1 hc2 => ?_))
                | (show GJ _ _ _ _ _ _ _; first | refine GJ.t (by decide) ?_ | refine GJ.f (by decide) ?_ | refine GJ.ft (by decide) ?_ | refine GJ.ff (by decide) ?_)
                | (show Br _ _ _; first | refine Br.t (by decide) ?_ | refine Br.f (by decide) ?_)
                | (show GJ _ _ _ _ _ _ _; first | (apply GJ.and; exact rfl; intro hg) | (apply GJ.or; exact rfl; intro hg)))
              try rw [hu3]
              repeat (first
                | (show _ ∧ _; exact ⟨rfl, rfl, rfl⟩)
                | refine wkT ?_
                | refine Bs.all ?_
                | (show RetOk _ _ _ _ _ _; refine RetOk.of (T := T) (RL.row rfl rfl LdN.hasBlk (by rfl) (RL.tmp rfl (RL.tmp rfl RL.nil))) ?_)
                | (show QOk _ _ _ _ _ _ _; refine QOk.build rfl rfl Nf.auto ?_)
                | (show OpOk _ _ _ _ _ _ _; first | refine opB (fun b => ?_) | refine opA (fun a' c' hc1 hc2 => ?_))
                | (show GJ _ _ _ _ _ _ _; first | refine GJ.t (by decide) ?_ | refine GJ.f (by decide) ?_ | refine GJ.ft (by decide) ?_ | refine GJ.ff (by decide) ?_)
                | (show Br _ _ _; first | refine Br.t (by decide) ?_ | refine Br.f (by decide) ?_)
                | (show GJ _ _ _ _ _ _ _; first | (apply GJ.and; exact rfl; intro hg) | (apply GJ.or; exact rfl; intro hg)))
              exact Wk.outS Sup.auto (.refl _) hk
            · rw [if_neg (fun h => h48 h.2)] at hfr
              have hk := hk _ _ _ _ hfr (by omega) (by omega) (by omega) (by omega)
              repeat (first
                | (show _ ∧ _; exact ⟨rfl, rfl, rfl⟩)
                | refine wkT ?_
                | refine Bs.all ?_
                | (show RetOk _ _ _ _ _ _; refine RetOk.of (T := T) (RL.row rfl rfl LdN.hasBlk (by rfl) (RL.tmp rfl (RL.tmp rfl RL.nil))) ?_)
                | (show QOk _ _ _ _ _ _ _; refine QOk.build rfl rfl Nf.auto ?_)
                | (show OpOk _ _ _ _ _ _ _; first | refine opB (fun b => ?_) | refine opA (fun a' c' hc1 hc2 => ?_))
                | (show GJ _ _ _ _ _ _ _; first | refine GJ.t (by decide) ?_ | refine GJ.f (by decide) ?_ | refine GJ.ft (by decide) ?_ | refine GJ.ff (by decide) ?_)
                | (show Br _ _ _; first | refine Br.t (by decide) ?_ | refine Br.f (by decide) ?_)
                | (show GJ _ _ _ _ _ _ _; first | (apply GJ.and; exact rfl; intro hg) | (apply GJ.or; exact rfl; intro hg)))
              try rw [hu3]
              repeat (first
                | (show _ ∧ _; exact ⟨rfl, rfl, rfl⟩)
                | refine wkT ?_
                | refine Bs.all ?_
                | (show RetOk _ _ _ _ _ _; refine RetOk.of (T := T) (RL.row rfl rfl LdN.hasBlk (by rfl) (RL.tmp rfl (RL.tmp rfl RL.nil))) ?_)
                | (show QOk _ _ _ _ _ _ _; refine QOk.build rfl rfl Nf.auto ?_)
                | (show OpOk _ _ _ _ _ _ _; first | refine opB (fun b => ?_) | refine opA (fun a' c' hc1 hc2 => ?_))
                | (show GJ _ _ _ _ _ _ _; first | refine GJ.t (by decide) ?_ | refine GJ.f (by decide) ?_ | refine GJ.ft (by decide) ?_ | refine GJ.ff (by decide) ?_)
                | (show Br _ _ _; first | refine Br.t (by decide) ?_ | refine Br.f (by decide) ?_)
                | (show GJ _ _ _ _ _ _ _; first | (apply GJ.and; exact rfl; intro hg) | (apply GJ.or; exact rfl; intro hg)))
              try rw [hcut]
              repeat (first
                | (show _ ∧ _; exact ⟨rfl, rfl, rfl⟩)
                | refine wkT ?_
                | refine Bs.all ?_
                | (show RetOk _ _ _ _ _ _; refine RetOk.of (T := T) (RL.row rfl rfl LdN.hasBlk (by rfl) (RL.tmp rfl (RL.tmp rfl RL.nil))) ?_)
                | (show QOk _ _ _ _ _ _ _; refine QOk.build rfl rfl Nf.auto ?_)
                | (show OpOk _ _ _ _ _ _ _; first | refine opB (fun b => ?_) | refine opA (fun a' c' hc1 hc2 => ?_))
                | (show GJ _ _ _ _ _ _ _; first | refine GJ.t (by decide) ?_ | refine GJ.f (by decide) ?_ | refine GJ.ft (by decide) ?_ | refine GJ.ff (by decide) ?_)
                | (show Br _ _ _; first | refine Br.t (by decide) ?_ | refine Br.f (by decide) ?_)
                | (show GJ _ _ _ _ _ _ _; first | (apply GJ.and; exact rfl; intro hg) | (apply GJ.or; exact rfl; intro hg)))
              exact Wk.outS Sup.auto (.refl _) hk
          · rw [if_neg (fun h => hg1 h.1)] at hfr
            have hk := hk _ _ _ _ hfr (by omega) (by omega) (by omega) (by omega)
            repeat (first
              | (show _ ∧ _; exact ⟨rfl, rfl, rfl⟩)
              | refine wkT ?_
              | refine Bs.all ?_
              | (show RetOk _ _ _ _ _ _; refine RetOk.of (T := T) (RL.row rfl rfl LdN.hasBlk (by rfl) (RL.tmp rfl (RL.tmp rfl RL.nil))) ?_)
              | (show QOk _ _ _ _ _ _ _; refine QOk.build rfl rfl Nf.auto ?_)
              | (show OpOk _ _ _ _ _ _ _; first | refine opB (fun b => ?_) | refine opA (fun a' c' hc1 hc2 => ?_))
              | (show GJ _ _ _ _ _ _ _; first | refine GJ.t (by decide) ?_ | refine GJ.f (by decide) ?_ | refine GJ.ft (by decide) ?_ | refine GJ.ff (by decide) ?_)
              | (show Br _ _ _; first | refine Br.t (by decide) ?_ | refine Br.f (by decide) ?_)
              | (show GJ _ _ _ _ _ _ _; first | (apply GJ.and; exact rfl; intro hg) | (apply GJ.or; exact rfl; intro hg)))
            try rw [hcut]
            repeat (first
              | (show _ ∧ _; exact ⟨rfl, rfl, rfl⟩)
              | refine wkT ?_
              | refine Bs.all ?_
              | (show RetOk _ _ _ _ _ _; refine RetOk.of (T := T) (RL.row rfl rfl LdN.hasBlk (by rfl) (RL.tmp rfl (RL.tmp rfl RL.nil))) ?_)
              | (show QOk _ _ _ _ _ _ _; refine QOk.build rfl rfl Nf.auto ?_)
              | (show OpOk _ _ _ _ _ _ _; first | refine opB (fun b => ?_) | refine opA (fun a' c' hc1 hc2 => ?_))
              | (show GJ _ _ _ _ _ _ _; first | refine GJ.t (by decide) ?_ | refine GJ.f (by decide) ?_ | refine GJ.ft (by decide) ?_ | refine GJ.ff (by decide) ?_)
              | (show Br _ _ _; first | refine Br.t (by decide) ?_ | refine Br.f (by decide) ?_)
              | (show GJ _ _ _ _ _ _ _; first | (apply GJ.and; exact rfl; intro hg) | (apply GJ.or; exact rfl; intro hg)))
            exact Wk.outS Sup.auto (.refl _) hk
    | false =>
      rw [if_neg (by simp)] at hfr
      by_cases h47 : u.toNat = 47
      · rw [if_pos h47] at hfr
        repeat (first
          | (show _ ∧ _; exact ⟨rfl, rfl, rfl⟩)
          | refine wkT ?_
          | refine Bs.all ?_
          | (show RetOk _ _ _ _ _ _; refine RetOk.of (T := T) (RL.row rfl rfl LdN.hasBlk (by rfl) (RL.tmp rfl (RL.tmp rfl RL.nil))) ?_)
          | (show QOk _ _ _ _ _ _ _; refine QOk.build rfl rfl Nf.auto ?_)
          | (show OpOk _ _ _ _ _ _ _; first | refine opB (fun b => ?_) | refine opA (fun a' c' hc1 hc2 => ?_))
          | (show GJ _ _ _ _ _ _ _; first | refine GJ.t (by decide) ?_ | refine GJ.f (by decide) ?_ | refine GJ.ft (by decide) ?_ | refine GJ.ff (by decide) ?_)
          | (show Br _ _ _; first | refine Br.t (by decide) ?_ | refine Br.f (by decide) ?_)
          | (show GJ _ _ _ _ _ _ _; first | (apply GJ.and; exact rfl; intro hg) | (apply GJ.or; exact rfl; intro hg)))
        try rw [hu3]
        repeat (first
          | (show _ ∧ _; exact ⟨rfl, rfl, rfl⟩)
          | refine wkT ?_
          | refine Bs.all ?_
          | (show RetOk _ _ _ _ _ _; refine RetOk.of (T := T) (RL.row rfl rfl LdN.hasBlk (by rfl) (RL.tmp rfl (RL.tmp rfl RL.nil))) ?_)
          | (show QOk _ _ _ _ _ _ _; refine QOk.build rfl rfl Nf.auto ?_)
          | (show OpOk _ _ _ _ _ _ _; first | refine opB (fun b => ?_) | refine opA (fun a' c' hc1 hc2 => ?_))
          | (show GJ _ _ _ _ _ _ _; first | refine GJ.t (by decide) ?_ | refine GJ.f (by decide) ?_ | refine GJ.ft (by decide) ?_ | refine GJ.ff (by decide) ?_)
          | (show Br _ _ _; first | refine Br.t (by decide) ?_ | refine Br.f (by decide) ?_)
          | (show GJ _ _ _ _ _ _ _; first | (apply GJ.and; exact rfl; intro hg) | (apply GJ.or; exact rfl; intro hg)))
        have hwl := takeWhile_le patB (l.drop 1)
        rw [List.length_drop] at hwl
        have hpd : patD (l.drop 1) = (match l.drop (1 + ((l.drop 1).takeWhile patB).length) with
          | [] => none
          | x :: _ => if x.toNat = 47 then some ((l.drop 1).takeWhile patB) else none) := by
          unfold patD
          rw [List.drop_drop]
          generalize l.drop _ = z
          cases z <;> rfl
        have ht3 := takeWhile_take patB (l.drop 1)
        have htw := fun (i : Nat) (v : UInt8) (h : (l.drop 1)[i]? = some v) => takeWhile_at (S := patB) h
        generalize hml : ((l.drop 1).takeWhile patB).length = m at *
        generalize (l.drop 1).takeWhile patB = w at *
        refine LoopOk.at (ι := Nat) Keep.auto (fun i => [(5, .int .i64 ((i + 1 : Nat) : Int))]) (fun i => .blk b 58 [.int .i64 0, .int .i64 0, str []] :: own) (fun i => i ≤ m) (fun i => m - i) 0 ?_ Sub.auto Sup.auto ?_
        · exact Nat.zero_le _
        rintro i i1
        dsimp only [List.cons_append, List.nil_append] at i1 ⊢
        have hcut : List.take (((i + 1 : Nat) : Int).toNat - Int.toNat 1) (List.drop (Int.toNat 1) l) = (l.drop 1).take i := by
          rw [Int.toNat_natCast]; rfl
        by_cases hb : i + 1 < l.length
        · obtain ⟨v, hv, hv2, hvd⟩ := get_at hb
          have hvn := v.toNat_lt
          have htv := htw i v (by rw [List.getElem?_drop, show 1 + i = i + 1 by omega]; exact hv)
          have hpv : patB v = (decide (v.toNat ≠ 47) && (decide (32 ≤ v.toNat) && decide (v.toNat < 127))) := rfl
          have hend : patB v = false → i = m := fun e => by
            apply Classical.byContradiction
            intro hne
            have := htv.1 (by omega)
            rw [e] at this; cases this
          by_cases hv47 : v.toNat = 47
          · have him := hend (by rw [hpv]; simp [hv47])
            subst him
            rw [show 1 + i = i + 1 by omega, hvd] at hpd
            simp only [if_pos hv47] at hpd
            rw [hpd] at hfr
            have hk := hk _ _ _ _ hfr (by omega) (by omega) (by omega) (by omega)
            rw [← ht3] at hcut
            rw [hml] at hk
            repeat (first
              | (show _ ∧ _; exact ⟨rfl, rfl, rfl⟩)
              | refine wkT ?_
              | refine Bs.all ?_
              | (show RetOk _ _ _ _ _ _; refine RetOk.of (T := T) (RL.row rfl rfl LdN.hasBlk (by rfl) (RL.tmp rfl (RL.tmp rfl RL.nil))) ?_)
              | (show QOk _ _ _ _ _ _ _; refine QOk.build rfl rfl Nf.auto ?_)
              | (show OpOk _ _ _ _ _ _ _; first | refine opB (fun b => ?_) | refine opA (fun a' c' hc1 hc2 => ?_))
              | (show GJ _ _ _ _ _ _ _; first | refine GJ.t (by decide) ?_ | refine GJ.f (by decide) ?_ | refine GJ.ft (by decide) ?_ | refine GJ.ff (by decide) ?_)
              | (show Br _ _ _; first | refine Br.t (by decide) ?_ | refine Br.f (by decide) ?_)
              | (show GJ _ _ _ _ _ _ _; first | (apply GJ.and; exact rfl; intro hg) | (apply GJ.or; exact rfl; intro hg)))
            try rw [hv2]
            repeat (first
              | (show _ ∧ _; exact ⟨rfl, rfl, rfl⟩)
              | refine wkT ?_
              | refine Bs.all ?_
              | (show RetOk _ _ _ _ _ _; refine RetOk.of (T := T) (RL.row rfl rfl LdN.hasBlk (by rfl) (RL.tmp rfl (RL.tmp rfl RL.nil))) ?_)
              | (show QOk _ _ _ _ _ _ _; refine QOk.build rfl rfl Nf.auto ?_)
              | (show OpOk _ _ _ _ _ _ _; first | refine opB (fun b => ?_) | refine opA (fun a' c' hc1 hc2 => ?_))
              | (show GJ _ _ _ _ _ _ _; first | refine GJ.t (by decide) ?_ | refine GJ.f (by decide) ?_ | refine GJ.ft (by decide) ?_ | refine GJ.ff (by decide) ?_)
              | (show Br _ _ _; first | refine Br.t (by decide) ?_ | refine Br.f (by decide) ?_)
              | (show GJ _ _ _ _ _ _ _; first | (apply GJ.and; exact rfl; intro hg) | (apply GJ.or; exact rfl; intro hg)))
            try rw [hcut]
            repeat (first
              | (show _ ∧ _; exact ⟨rfl, rfl, rfl⟩)
              | refine wkT ?_
              | refine Bs.all ?_
              | (show RetOk _ _ _ _ _ _; refine RetOk.of (T := T) (RL.row rfl rfl LdN.hasBlk (by rfl) (RL.tmp rfl (RL.tmp rfl RL.nil))) ?_)
              | (show QOk _ _ _ _ _ _ _; refine QOk.build rfl rfl Nf.auto ?_)
              | (show OpOk _ _ _ _ _ _ _; first | refine opB (fun b => ?_) | refine opA (fun a' c' hc1 hc2 => ?_))
              | (show GJ _ _ _ _ _ _ _; first | refine GJ.t (by decide) ?_ | refine GJ.f (by decide) ?_ | refine GJ.ft (by decide) ?_ | refine GJ.ff (by decide) ?_)
              | (show Br _ _ _; first | refine Br.t (by decide) ?_ | refine Br.f (by decide) ?_)
              | (show GJ _ _ _ _ _ _ _; first | (apply GJ.and; exact rfl; intro hg) | (apply GJ.or; exact rfl; intro hg)))
            exact Wk.outS Sup.auto (.refl _) hk
          · by_cases hbad : v.toNat < 32 ∨ 126 < v.toNat
            · have him := hend (by rw [hpv]; rcases hbad with h | h <;> simp <;> omega)
              subst him
              rw [show 1 + i = i + 1 by omega, hvd] at hpd
              simp only [if_neg hv47] at hpd
              rw [hpd] at hfr
              have hk := hk _ _ _ _ hfr (by omega) (by omega) (by omega) (by omega)
              rcases hbad with h | h
              · repeat (first
                  | (show _ ∧ _; exact ⟨rfl, rfl, rfl⟩)
                  | refine wkT ?_
                  | refine Bs.all ?_
                  | (show RetOk _ _ _ _ _ _; refine RetOk.of (T := T) (RL.row rfl rfl LdN.hasBlk (by rfl) (RL.tmp rfl (RL.tmp rfl RL.nil))) ?_)
                  | (show QOk _ _ _ _ _ _ _; refine QOk.build rfl rfl Nf.auto ?_)
                  | (show OpOk _ _ _ _ _ _ _; first | refine opB (fun b => ?_) | refine opA (fun a' c' hc1 hc2 => ?_))
                  | (show GJ _ _ _ _ _ _ _; first | refine GJ.t (by decide) ?_ | refine GJ.f (by decide) ?_ | refine GJ.ft (by decide) ?_ | refine GJ.ff (by decide) ?_)
                  | (show Br _ _ _; first | refine Br.t (by decide) ?_ | refine Br.f (by decide) ?_)
                  | (show GJ _ _ _ _ _ _ _; first | (apply GJ.and; exact rfl; intro hg) | (apply GJ.or; exact rfl; intro hg)))
                try rw [hv2]
                repeat (first
                  | (show _ ∧ _; exact ⟨rfl, rfl, rfl⟩)
                  | refine wkT ?_
                  | refine Bs.all ?_
                  | (show RetOk _ _ _ _ _ _; refine RetOk.of (T := T) (RL.row rfl rfl LdN.hasBlk (by rfl) (RL.tmp rfl (RL.tmp rfl RL.nil))) ?_)
                  | (show QOk _ _ _ _ _ _ _; refine QOk.build rfl rfl Nf.auto ?_)
                  | (show OpOk _ _ _ _ _ _ _; first | refine opB (fun b => ?_) | refine opA (fun a' c' hc1 hc2 => ?_))
                  | (show GJ _ _ _ _ _ _ _; first | refine GJ.t (by decide) ?_ | refine GJ.f (by decide) ?_ | refine GJ.ft (by decide) ?_ | refine GJ.ff (by decide) ?_)
                  | (show Br _ _ _; first | refine Br.t (by decide) ?_ | refine Br.f (by decide) ?_)
                  | (show GJ _ _ _ _ _ _ _; first | (apply GJ.and; exact rfl; intro hg) | (apply GJ.or; exact rfl; intro hg)))
                try rw [hv2]
                repeat (first
                  | (show _ ∧ _; exact ⟨rfl, rfl, rfl⟩)
                  | refine wkT ?_
                  | refine Bs.all ?_
                  | (show RetOk _ _ _ _ _ _; refine RetOk.of (T := T) (RL.row rfl rfl LdN.hasBlk (by rfl) (RL.tmp rfl (RL.tmp rfl RL.nil))) ?_)
                  | (show QOk _ _ _ _ _ _ _; refine QOk.build rfl rfl Nf.auto ?_)
                  | (show OpOk _ _ _ _ _ _ _; first | refine opB (fun b => ?_) | refine opA (fun a' c' hc1 hc2 => ?_))
                  | (show GJ _ _ _ _ _ _ _; first | refine GJ.t (by decide) ?_ | refine GJ.f (by decide) ?_ | refine GJ.ft (by decide) ?_ | refine GJ.ff (by decide) ?_)
                  | (show Br _ _ _; first | refine Br.t (by decide) ?_ | refine Br.f (by decide) ?_)
                  | (show GJ _ _ _ _ _ _ _; first | (apply GJ.and; exact rfl; intro hg) | (apply GJ.or; exact rfl; intro hg)))
                exact Wk.outS Sup.auto (.refl _) hk
              · repeat (first
                  | (show _ ∧ _; exact ⟨rfl, rfl, rfl⟩)
                  | refine wkT ?_
                  | refine Bs.all ?_
                  | (show RetOk _ _ _ _ _ _; refine RetOk.of (T := T) (RL.row rfl rfl LdN.hasBlk (by rfl) (RL.tmp rfl (RL.tmp rfl RL.nil))) ?_)
                  | (show QOk _ _ _ _ _ _ _; refine QOk.build rfl rfl Nf.auto ?_)
                  | (show OpOk _ _ _ _ _ _ _; first | refine opB (fun b => ?_) | refine opA (fun a' c' hc1 hc2 => ?_))
                  | (show GJ _ _ _ _ _ _ _; first | refine GJ.t (by decide) ?_ | refine GJ.f (by decide) ?_ | refine GJ.ft (by decide) ?_ | refine GJ.ff (by decide) ?_)
                  | (show Br _ _ _; first | refine Br.t (by decide) ?_ | refine Br.f (by decide) ?_)
                  | (show GJ _ _ _ _ _ _ _; first | (apply GJ.and; exact rfl; intro hg) | (apply GJ.or; exact rfl; intro hg)))
                try rw [hv2]
                repeat (first
                  | (show _ ∧ _; exact ⟨rfl, rfl, rfl⟩)
                  | refine wkT ?_
                  | refine Bs.all ?_
                  | (show RetOk _ _ _ _ _ _; refine RetOk.of (T := T) (RL.row rfl rfl LdN.hasBlk (by rfl) (RL.tmp rfl (RL.tmp rfl RL.nil))) ?_)
                  | (show QOk _ _ _ _ _ _ _; refine QOk.build rfl rfl Nf.auto ?_)
                  | (show OpOk _ _ _ _ _ _ _; first | refine opB (fun b => ?_) | refine opA (fun a' c' hc1 hc2 => ?_))
                  | (show GJ _ _ _ _ _ _ _; first | refine GJ.t (by decide) ?_ | refine GJ.f (by decide) ?_ | refine GJ.ft (by decide) ?_ | refine GJ.ff (by decide) ?_)
                  | (show Br _ _ _; first | refine Br.t (by decide) ?_ | refine Br.f (by decide) ?_)
                  | (show GJ _ _ _ _ _ _ _; first | (apply GJ.and; exact rfl; intro hg) | (apply GJ.or; exact rfl; intro hg)))
                try rw [hv2]
                repeat (first
                  | (show _ ∧ _; exact ⟨rfl, rfl, rfl⟩)
                  | refine wkT ?_
                  | refine Bs.all ?_
                  | (show RetOk _ _ _ _ _ _; refine RetOk.of (T := T) (RL.row rfl rfl LdN.hasBlk (by rfl) (RL.tmp rfl (RL.tmp rfl RL.nil))) ?_)
                  | (show QOk _ _ _ _ _ _ _; refine QOk.build rfl rfl Nf.auto ?_)
                  | (show OpOk _ _ _ _ _ _ _; first | refine opB (fun b => ?_) | refine opA (fun a' c' hc1 hc2 => ?_))
                  | (show GJ _ _ _ _ _ _ _; first | refine GJ.t (by decide) ?_ | refine GJ.f (by decide) ?_ | refine GJ.ft (by decide) ?_ | refine GJ.ff (by decide) ?_)
                  | (show Br _ _ _; first | refine Br.t (by decide) ?_ | refine Br.f (by decide) ?_)
                  | (show GJ _ _ _ _ _ _ _; first | (apply GJ.and; exact rfl; intro hg) | (apply GJ.or; exact rfl; intro hg)))
                exact Wk.outS Sup.auto (.refl _) hk
            · have hpt : patB v = true := by rw [hpv]; simp; omega
              have hne : i ≠ m := fun e => by have := htv.2 e; rw [hpt] at this; cases this
              repeat (first
                | (show _ ∧ _; exact ⟨rfl, rfl, rfl⟩)
                | refine wkT ?_
                | refine Bs.all ?_
                | (show RetOk _ _ _ _ _ _; refine RetOk.of (T := T) (RL.row rfl rfl LdN.hasBlk (by rfl) (RL.tmp rfl (RL.tmp rfl RL.nil))) ?_)
                | (show QOk _ _ _ _ _ _ _; refine QOk.build rfl rfl Nf.auto ?_)
                | (show OpOk _ _ _ _ _ _ _; first | refine opB (fun b => ?_) | refine opA (fun a' c' hc1 hc2 => ?_))
                | (show GJ _ _ _ _ _ _ _; first | refine GJ.t (by decide) ?_ | refine GJ.f (by decide) ?_ | refine GJ.ft (by decide) ?_ | refine GJ.ff (by decide) ?_)
                | (show Br _ _ _; first | refine Br.t (by decide) ?_ | refine Br.f (by decide) ?_)
                | (show GJ _ _ _ _ _ _ _; first | (apply GJ.and; exact rfl; intro hg) | (apply GJ.or; exact rfl; intro hg)))
              try rw [hv2]
              repeat (first
                | (show _ ∧ _; exact ⟨rfl, rfl, rfl⟩)
                | refine wkT ?_
                | refine Bs.all ?_
                | (show RetOk _ _ _ _ _ _; refine RetOk.of (T := T) (RL.row rfl rfl LdN.hasBlk (by rfl) (RL.tmp rfl (RL.tmp rfl RL.nil))) ?_)
                | (show QOk _ _ _ _ _ _ _; refine QOk.build rfl rfl Nf.auto ?_)
                | (show OpOk _ _ _ _ _ _ _; first | refine opB (fun b => ?_) | refine opA (fun a' c' hc1 hc2 => ?_))
                | (show GJ _ _ _ _ _ _ _; first | refine GJ.t (by decide) ?_ | refine GJ.f (by decide) ?_ | refine GJ.ft (by decide) ?_ | refine GJ.ff (by decide) ?_)
                | (show Br _ _ _; first | refine Br.t (by decide) ?_ | refine Br.f (by decide) ?_)
                | (show GJ _ _ _ _ _ _ _; first | (apply GJ.and; exact rfl; intro hg) | (apply GJ.or; exact rfl; intro hg)))
              try rw [hv2]
              repeat (first
                | (show _ ∧ _; exact ⟨rfl, rfl, rfl⟩)
                | refine wkT ?_
                | refine Bs.all ?_
                | (show RetOk _ _ _ _ _ _; refine RetOk.of (T := T) (RL.row rfl rfl LdN.hasBlk (by rfl) (RL.tmp rfl (RL.tmp rfl RL.nil))) ?_)
                | (show QOk _ _ _ _ _ _ _; refine QOk.build rfl rfl Nf.auto ?_)
                | (show OpOk _ _ _ _ _ _ _; first | refine opB (fun b => ?_) | refine opA (fun a' c' hc1 hc2 => ?_))
                | (show GJ _ _ _ _ _ _ _; first | refine GJ.t (by decide) ?_ | refine GJ.f (by decide) ?_ | refine GJ.ft (by decide) ?_ | refine GJ.ff (by decide) ?_)
                | (show Br _ _ _; first | refine Br.t (by decide) ?_ | refine Br.f (by decide) ?_)
                | (show GJ _ _ _ _ _ _ _; first | (apply GJ.and; exact rfl; intro hg) | (apply GJ.or; exact rfl; intro hg)))
              refine Wk.id ⟨i + 1, ⟨rfl, ?_⟩, ?_, Sub.auto, Sup.auto⟩
              all_goals try dsimp only
              · omega
              · omega
        · have him : i = m := by omega
          subst him
          have h0 : l.drop (1 + i) = [] := List.drop_eq_nil_of_le (by omega)
          rw [h0] at hpd
          simp only at hpd
          rw [hpd] at hfr
          have hk := hk _ _ _ _ hfr (by omega) (by omega) (by omega) (by omega)
          repeat (first
            | (show _ ∧ _; exact ⟨rfl, rfl, rfl⟩)
            | refine wkT ?_
            | refine Bs.all ?_
            | (show RetOk _ _ _ _ _ _; refine RetOk.of (T := T) (RL.row rfl rfl LdN.hasBlk (by rfl) (RL.tmp rfl (RL.tmp rfl RL.nil))) ?_)
            | (show QOk _ _ _ _ _ _ _; refine QOk.build rfl rfl Nf.auto ?_)
            | (show OpOk _ _ _ _ _ _ _; first | refine opB (fun b => ?_) | refine opA (fun a' c' hc1 hc2 => ?_))
            | (show GJ _ _ _ _ _ _ _; first | refine GJ.t (by decide) ?_ | refine GJ.f (by decide) ?_ | refine GJ.ft (by decide) ?_ | refine GJ.ff (by decide) ?_)
            | (show Br _ _ _; first | refine Br.t (by decide) ?_ | refine Br.f (by decide) ?_)
            | (show GJ _ _ _ _ _ _ _; first | (apply GJ.and; exact rfl; intro hg) | (apply GJ.or; exact rfl; intro hg)))
          exact Wk.outS Sup.auto (.refl _) hk
      · rw [if_neg h47] at hfr
        by_cases h46 : u.toNat = 46 ∧ (l.drop 1).head? = some 46
        · rw [if_pos h46] at hfr
          obtain ⟨h1, h2⟩ := h46
          have hlen : 1 < l.length := by
            rcases Nat.lt_or_ge 1 l.length with h | h
            · exact h
            · rw [List.drop_eq_nil_of_le h] at h2; cases h2
          obtain ⟨v, hv, hv2, hvd⟩ := get_at hlen
          rw [hvd] at h2
          obtain rfl : v = 46 := by simpa using h2
          have hv3 : l[Int.toNat 1]! = 46 := hv2
          have hx46 : (46 : UInt8).toNat = 46 := rfl
          have hk := hk _ _ _ _ hfr (show 2 ≤ l.length by omega) (by omega) (by omega) (by simp)
          repeat (first
            | (show _ ∧ _; exact ⟨rfl, rfl, rfl⟩)
            | refine wkT ?_
            | refine Bs.all ?_
            | (show RetOk _ _ _ _ _ _; refine RetOk.of (T := T) (RL.row rfl rfl LdN.hasBlk (by rfl) (RL.tmp rfl (RL.tmp rfl RL.nil))) ?_)
            | (show QOk _ _ _ _ _ _ _; refine QOk.build rfl rfl Nf.auto ?_)
            | (show OpOk _ _ _ _ _ _ _; first | refine opB (fun b => ?_) | refine opA (fun a' c' hc1 hc2 => ?_))
            | (show GJ _ _ _ _ _ _ _; first | refine GJ.t (by decide) ?_ | refine GJ.f (by decide) ?_ | refine GJ.ft (by decide) ?_ | refine GJ.ff (by decide) ?_)
            | (show Br _ _ _; first | refine Br.t (by decide) ?_ | refine Br.f (by decide) ?_)
            | (show GJ _ _ _ _ _ _ _; first | (apply GJ.and; exact rfl; intro hg) | (apply GJ.or; exact rfl; intro hg)))
          try rw [hu3]
          repeat (first
            | (show _ ∧ _; exact ⟨rfl, rfl, rfl⟩)
            | refine wkT ?_
            | refine Bs.all ?_
            | (show RetOk _ _ _ _ _ _; refine RetOk.of (T := T) (RL.row rfl rfl LdN.hasBlk (by rfl) (RL.tmp rfl (RL.tmp rfl RL.nil))) ?_)
            | (show QOk _ _ _ _ _ _ _; refine QOk.build rfl rfl Nf.auto ?_)
            | (show OpOk _ _ _ _ _ _ _; first | refine opB (fun b => ?_) | refine opA (fun a' c' hc1 hc2 => ?_))
            | (show GJ _ _ _ _ _ _ _; first | refine GJ.t (by decide) ?_ | refine GJ.f (by decide) ?_ | refine GJ.ft (by decide) ?_ | refine GJ.ff (by decide) ?_)
            | (show Br _ _ _; first | refine Br.t (by decide) ?_ | refine Br.f (by decide) ?_)
            | (show GJ _ _ _ _ _ _ _; first | (apply GJ.and; exact rfl; intro hg) | (apply GJ.or; exact rfl; intro hg)))
          try rw [hu3]
          repeat (first
            | (show _ ∧ _; exact ⟨rfl, rfl, rfl⟩)
            | refine wkT ?_
            | refine Bs.all ?_
            | (show RetOk _ _ _ _ _ _; refine RetOk.of (T := T) (RL.row rfl rfl LdN.hasBlk (by rfl) (RL.tmp rfl (RL.tmp rfl RL.nil))) ?_)
            | (show QOk _ _ _ _ _ _ _; refine QOk.build rfl rfl Nf.auto ?_)
            | (show OpOk _ _ _ _ _ _ _; first | refine opB (fun b => ?_) | refine opA (fun a' c' hc1 hc2 => ?_))
            | (show GJ _ _ _ _ _ _ _; first | refine GJ.t (by decide) ?_ | refine GJ.f (by decide) ?_ | refine GJ.ft (by decide) ?_ | refine GJ.ff (by decide) ?_)
            | (show Br _ _ _; first | refine Br.t (by decide) ?_ | refine Br.f (by decide) ?_)
            | (show GJ _ _ _ _ _ _ _; first | (apply GJ.and; exact rfl; intro hg) | (apply GJ.or; exact rfl; intro hg)))
          try rw [hv3]
          repeat (first
            | (show _ ∧ _; exact ⟨rfl, rfl, rfl⟩)
            | refine wkT ?_
            | refine Bs.all ?_
            | (show RetOk _ _ _ _ _ _; refine RetOk.of (T := T) (RL.row rfl rfl LdN.hasBlk (by rfl) (RL.tmp rfl (RL.tmp rfl RL.nil))) ?_)
            | (show QOk _ _ _ _ _ _ _; refine QOk.build rfl rfl Nf.auto ?_)
            | (show OpOk _ _ _ _ _ _ _; first | refine opB (fun b => ?_) | refine opA (fun a' c' hc1 hc2 => ?_))
            | (show GJ _ _ _ _ _ _ _; first | refine GJ.t (by decide) ?_ | refine GJ.f (by decide) ?_ | refine GJ.ft (by decide) ?_ | refine GJ.ff (by decide) ?_)
            | (show Br _ _ _; first | refine Br.t (by decide) ?_ | refine Br.f (by decide) ?_)
            | (show GJ _ _ _ _ _ _ _; first | (apply GJ.and; exact rfl; intro hg) | (apply GJ.or; exact rfl; intro hg)))
          exact Wk.outS Sup.auto (.refl _) hk
        · rw [if_neg h46] at hfr
          have h46b : 1 < l.length → u.toNat = 46 → (l[Int.toNat 1]!).toNat ≠ 46 := fun hlen h1 h2 => by
            obtain ⟨v, hv, hv2, hvd⟩ := get_at hlen
            have hv3 : l[Int.toNat 1]! = v := hv2
            rw [hv3] at h2
            apply h46
            rw [hvd]
            exact ⟨h1, by rw [List.head?_cons]; congr 1; exact UInt8.toNat_inj.1 (by rw [h2]; rfl)⟩
          have hob : oneB = [61, 59, 123, 125, 91, 93, 40, 41, 58, 124, 42, 43, 37] := rfl
          have hol : oneB.length = 13 := rfl
          generalize oneB = ob at hfr hob hol
          by_cases hc1 : 1 < l.length <;> by_cases hc2 : u.toNat = 46
          all_goals
            try have hc3 := h46b hc1 hc2
            repeat (first
              | (show _ ∧ _; exact ⟨rfl, rfl, rfl⟩)
              | refine wkT ?_
              | refine Bs.all ?_
              | (show RetOk _ _ _ _ _ _; refine RetOk.of (T := T) (RL.row rfl rfl LdN.hasBlk (by rfl) (RL.tmp rfl (RL.tmp rfl RL.nil))) ?_)
              | (show QOk _ _ _ _ _ _ _; refine QOk.build rfl rfl Nf.auto ?_)
              | (show OpOk _ _ _ _ _ _ _; first | refine opB (fun b => ?_) | refine opA (fun a' c' hc1 hc2 => ?_))
              | (show GJ _ _ _ _ _ _ _; first | refine GJ.t (by decide) ?_ | refine GJ.f (by decide) ?_ | refine GJ.ft (by decide) ?_ | refine GJ.ff (by decide) ?_)
              | (show Br _ _ _; first | refine Br.t (by decide) ?_ | refine Br.f (by decide) ?_)
              | (show GJ _ _ _ _ _ _ _; first | (apply GJ.and; exact rfl; intro hg) | (apply GJ.or; exact rfl; intro hg)))
            try rw [hu3]
            repeat (first
              | (show _ ∧ _; exact ⟨rfl, rfl, rfl⟩)
              | refine wkT ?_
              | refine Bs.all ?_
              | (show RetOk _ _ _ _ _ _; refine RetOk.of (T := T) (RL.row rfl rfl LdN.hasBlk (by rfl) (RL.tmp rfl (RL.tmp rfl RL.nil))) ?_)
              | (show QOk _ _ _ _ _ _ _; refine QOk.build rfl rfl Nf.auto ?_)
              | (show OpOk _ _ _ _ _ _ _; first | refine opB (fun b => ?_) | refine opA (fun a' c' hc1 hc2 => ?_))
              | (show GJ _ _ _ _ _ _ _; first | refine GJ.t (by decide) ?_ | refine GJ.f (by decide) ?_ | refine GJ.ft (by decide) ?_ | refine GJ.ff (by decide) ?_)
              | (show Br _ _ _; first | refine Br.t (by decide) ?_ | refine Br.f (by decide) ?_)
              | (show GJ _ _ _ _ _ _ _; first | (apply GJ.and; exact rfl; intro hg) | (apply GJ.or; exact rfl; intro hg)))
            try rw [hu3]
            repeat (first
              | (show _ ∧ _; exact ⟨rfl, rfl, rfl⟩)
              | refine wkT ?_
              | refine Bs.all ?_
              | (show RetOk _ _ _ _ _ _; refine RetOk.of (T := T) (RL.row rfl rfl LdN.hasBlk (by rfl) (RL.tmp rfl (RL.tmp rfl RL.nil))) ?_)
              | (show QOk _ _ _ _ _ _ _; refine QOk.build rfl rfl Nf.auto ?_)
              | (show OpOk _ _ _ _ _ _ _; first | refine opB (fun b => ?_) | refine opA (fun a' c' hc1 hc2 => ?_))
              | (show GJ _ _ _ _ _ _ _; first | refine GJ.t (by decide) ?_ | refine GJ.f (by decide) ?_ | refine GJ.ft (by decide) ?_ | refine GJ.ff (by decide) ?_)
              | (show Br _ _ _; first | refine Br.t (by decide) ?_ | refine Br.f (by decide) ?_)
              | (show GJ _ _ _ _ _ _ _; first | (apply GJ.and; exact rfl; intro hg) | (apply GJ.or; exact rfl; intro hg)))
            rw [← hob]
            refine LoopOk.at (ι := Nat) Keep.auto (fun i => [(7, .int .i64 (i : Int))]) (fun i => .blk b 58 [.int .i64 0, .int .i64 0, str []] :: own) (fun i => i ≤ 13 ∧ ∀ j, j < i → ob[j]? ≠ some u) (fun i => 13 - i) 0 ?_ Sub.auto Sup.auto ?_
            · exact ⟨Nat.zero_le _, fun j hj => absurd hj (by omega)⟩
            rintro i ⟨i1, i2⟩
            dsimp only [List.cons_append, List.nil_append] at i1 i2 ⊢
            by_cases hb : i < ob.length
            · obtain ⟨v, hv, hv2, hvd⟩ := get_at hb
              by_cases hvu : v.toNat = u.toNat
              · obtain rfl : v = u := UInt8.toNat_inj.1 hvu
                rw [if_pos (List.mem_of_getElem? hv)] at hfr
                have hk := hk _ _ _ _ hfr (show 1 ≤ l.length by omega) (by omega) (by omega) (by simp)
                have hcut : List.take (Int.toNat 1) l = [v] := by rw [hd]; rfl
                repeat (first
                  | (show _ ∧ _; exact ⟨rfl, rfl, rfl⟩)
                  | refine wkT ?_
                  | refine Bs.all ?_
                  | (show RetOk _ _ _ _ _ _; refine RetOk.of (T := T) (RL.row rfl rfl LdN.hasBlk (by rfl) (RL.tmp rfl (RL.tmp rfl RL.nil))) ?_)
                  | (show QOk _ _ _ _ _ _ _; refine QOk.build rfl rfl Nf.auto ?_)
                  | (show OpOk _ _ _ _ _ _ _; first | refine opB (fun b => ?_) | refine opA (fun a' c' hc1 hc2 => ?_))
                  | (show GJ _ _ _ _ _ _ _; first | refine GJ.t (by decide) ?_ | refine GJ.f (by decide) ?_ | refine GJ.ft (by decide) ?_ | refine GJ.ff (by decide) ?_)
                  | (show Br _ _ _; first | refine Br.t (by decide) ?_ | refine Br.f (by decide) ?_)
                  | (show GJ _ _ _ _ _ _ _; first | (apply GJ.and; exact rfl; intro hg) | (apply GJ.or; exact rfl; intro hg)))
                try rw [hv2]
                try rw [hu3]
                repeat (first
                  | (show _ ∧ _; exact ⟨rfl, rfl, rfl⟩)
                  | refine wkT ?_
                  | refine Bs.all ?_
                  | (show RetOk _ _ _ _ _ _; refine RetOk.of (T := T) (RL.row rfl rfl LdN.hasBlk (by rfl) (RL.tmp rfl (RL.tmp rfl RL.nil))) ?_)
                  | (show QOk _ _ _ _ _ _ _; refine QOk.build rfl rfl Nf.auto ?_)
                  | (show OpOk _ _ _ _ _ _ _; first | refine opB (fun b => ?_) | refine opA (fun a' c' hc1 hc2 => ?_))
                  | (show GJ _ _ _ _ _ _ _; first | refine GJ.t (by decide) ?_ | refine GJ.f (by decide) ?_ | refine GJ.ft (by decide) ?_ | refine GJ.ff (by decide) ?_)
                  | (show Br _ _ _; first | refine Br.t (by decide) ?_ | refine Br.f (by decide) ?_)
                  | (show GJ _ _ _ _ _ _ _; first | (apply GJ.and; exact rfl; intro hg) | (apply GJ.or; exact rfl; intro hg)))
                try rw [hcut]
                repeat (first
                  | (show _ ∧ _; exact ⟨rfl, rfl, rfl⟩)
                  | refine wkT ?_
                  | refine Bs.all ?_
                  | (show RetOk _ _ _ _ _ _; refine RetOk.of (T := T) (RL.row rfl rfl LdN.hasBlk (by rfl) (RL.tmp rfl (RL.tmp rfl RL.nil))) ?_)
                  | (show QOk _ _ _ _ _ _ _; refine QOk.build rfl rfl Nf.auto ?_)
                  | (show OpOk _ _ _ _ _ _ _; first | refine opB (fun b => ?_) | refine opA (fun a' c' hc1 hc2 => ?_))
                  | (show GJ _ _ _ _ _ _ _; first | refine GJ.t (by decide) ?_ | refine GJ.f (by decide) ?_ | refine GJ.ft (by decide) ?_ | refine GJ.ff (by decide) ?_)
                  | (show Br _ _ _; first | refine Br.t (by decide) ?_ | refine Br.f (by decide) ?_)
                  | (show GJ _ _ _ _ _ _ _; first | (apply GJ.and; exact rfl; intro hg) | (apply GJ.or; exact rfl; intro hg)))
                exact Wk.outS Sup.auto (.refl _) hk
              · repeat (first
                  | (show _ ∧ _; exact ⟨rfl, rfl, rfl⟩)
                  | refine wkT ?_
                  | refine Bs.all ?_
                  | (show RetOk _ _ _ _ _ _; refine RetOk.of (T := T) (RL.row rfl rfl LdN.hasBlk (by rfl) (RL.tmp rfl (RL.tmp rfl RL.nil))) ?_)
                  | (show QOk _ _ _ _ _ _ _; refine QOk.build rfl rfl Nf.auto ?_)
                  | (show OpOk _ _ _ _ _ _ _; first | refine opB (fun b => ?_) | refine opA (fun a' c' hc1 hc2 => ?_))
                  | (show GJ _ _ _ _ _ _ _; first | refine GJ.t (by decide) ?_ | refine GJ.f (by decide) ?_ | refine GJ.ft (by decide) ?_ | refine GJ.ff (by decide) ?_)
                  | (show Br _ _ _; first | refine Br.t (by decide) ?_ | refine Br.f (by decide) ?_)
                  | (show GJ _ _ _ _ _ _ _; first | (apply GJ.and; exact rfl; intro hg) | (apply GJ.or; exact rfl; intro hg)))
                try rw [hv2]
                try rw [hu3]
                repeat (first
                  | (show _ ∧ _; exact ⟨rfl, rfl, rfl⟩)
                  | refine wkT ?_
                  | refine Bs.all ?_
                  | (show RetOk _ _ _ _ _ _; refine RetOk.of (T := T) (RL.row rfl rfl LdN.hasBlk (by rfl) (RL.tmp rfl (RL.tmp rfl RL.nil))) ?_)
                  | (show QOk _ _ _ _ _ _ _; refine QOk.build rfl rfl Nf.auto ?_)
                  | (show OpOk _ _ _ _ _ _ _; first | refine opB (fun b => ?_) | refine opA (fun a' c' hc1 hc2 => ?_))
                  | (show GJ _ _ _ _ _ _ _; first | refine GJ.t (by decide) ?_ | refine GJ.f (by decide) ?_ | refine GJ.ft (by decide) ?_ | refine GJ.ff (by decide) ?_)
                  | (show Br _ _ _; first | refine Br.t (by decide) ?_ | refine Br.f (by decide) ?_)
                  | (show GJ _ _ _ _ _ _ _; first | (apply GJ.and; exact rfl; intro hg) | (apply GJ.or; exact rfl; intro hg)))
                refine Wk.id ⟨i + 1, ⟨rfl, ?_⟩, ?_, Sub.auto, Sup.auto⟩
                all_goals try dsimp only
                · refine ⟨by omega, fun j hj => ?_⟩
                  by_cases hji : j = i
                  · rw [hji, hv]
                    intro e
                    exact hvu (by rw [Option.some.inj e])
                  · exact i2 j (by omega)
                · omega
            · have hno : u ∉ ob := fun hm => by
                obtain ⟨j, hj, e⟩ := List.getElem_of_mem hm
                exact i2 j (by omega) (by rw [List.getElem?_eq_getElem hj, e])
              rw [if_neg hno] at hfr
              have hk := hk _ _ _ _ hfr (by omega) (by omega) (by omega) (by omega)
              repeat (first
                | (show _ ∧ _; exact ⟨rfl, rfl, rfl⟩)
                | refine wkT ?_
                | refine Bs.all ?_
                | (show RetOk _ _ _ _ _ _; refine RetOk.of (T := T) (RL.row rfl rfl LdN.hasBlk (by rfl) (RL.tmp rfl (RL.tmp rfl RL.nil))) ?_)
                | (show QOk _ _ _ _ _ _ _; refine QOk.build rfl rfl Nf.auto ?_)
                | (show OpOk _ _ _ _ _ _ _; first | refine opB (fun b => ?_) | refine opA (fun a' c' hc1 hc2 => ?_))
                | (show GJ _ _ _ _ _ _ _; first | refine GJ.t (by decide) ?_ | refine GJ.f (by decide) ?_ | refine GJ.ft (by decide) ?_ | refine GJ.ff (by decide) ?_)
                | (show Br _ _ _; first | refine Br.t (by decide) ?_ | refine Br.f (by decide) ?_)
                | (show GJ _ _ _ _ _ _ _; first | (apply GJ.and; exact rfl; intro hg) | (apply GJ.or; exact rfl; intro hg)))
              exact Wk.outS Sup.auto (.refl _) hk
end
end Go.Proofs.YtocliedpgdfkoaaDoor
