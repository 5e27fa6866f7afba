/- Contracts of lex: next. -/
import Derived.Test.YtniofdklhlbphaaDoorLxD
namespace Go.Proofs.YtniofdklhlbphaaDoor
open Go Go.E
set_option linter.unusedVariables false
set_option linter.unusedSimpArgs false
set_option maxRecDepth 10000
/-- The token at the front: its kind, its text, how many bytes it has, the error's number. -/
def frontD (l : List UInt8) : Nat × List UInt8 × Nat × Nat := match l with
  | [] => (0, [], 0, 100)
  | c :: r => if letB c = true then (if 24 < (l.takeWhile wordB).length then (0, [], 0, 2) else (1, l.takeWhile wordB, (l.takeWhile wordB).length, 0))
    else if digB c = true then (if 20 < (l.takeWhile digB).length then (0, [], 0, 2) else if 1 < (l.takeWhile digB).length ∧ c.toNat = 48 then (0, [], 0, 5) else (2, l.takeWhile digB, (l.takeWhile digB).length, 0))
    else if c.toNat = 47 then (match patD r with
      | none => (0, [], 0, 5)
      | some w => (3, w, w.length + 2, 0))
    else match signsL.find? (·.isPrefixOf l) with
      | some s => (4, s, s.length, 0)
      | none => (0, [], 0, 100)
theorem signs_len : ∀ j, j < 14 → (signsL[j]!).length ≤ 2 ∧ 1 ≤ (signsL[j]!).length := by decide +kernel
theorem find_none {α : Type} {f : α → Bool} {l : List α} (h : ∀ x ∈ l, f x = false) : l.find? f = none := by
  rw [List.find?_eq_none]; intro x hx; simp [h x hx]
theorem find_at {α : Type} [Inhabited α] {f : α → Bool} : ∀ {l : List α} {j : Nat}, j < l.length → f l[j]! = true → (∀ i, i < j → f l[i]! = false) → l.find? f = some l[j]!
  | [], j, h, _, _ => by simp at h
  | x :: l, 0, _, h1, _ => by rw [List.find?_cons]; have : f x = true := h1; rw [this]; rfl
  | x :: l, j + 1, h, h1, h2 => by
    have h0 : f x = false := h2 0 (by omega)
    rw [List.find?_cons, h0]
    exact find_at (l := l) (j := j) (by simpa using h) h1 (fun i hi => h2 (i + 1) (by omega))
section
variable {ro : Ro} {own r : Chs} {K : Value → Ro → Chs → Prop} {g : Chunk → Chs}
set_option maxHeartbeats 4000000 in
theorem next_ok {p a : Nat} {tx : List UInt8} {o : Value} (hS : SpOk ro) (hat : a < tx.length) (hl : tx.length ≤ 100000)
    (hk1 : ∀ k w n, frontD (tx.drop a) = (k, w, n, 0) → a + n ≤ tx.length → 1 ≤ n → K (.tuple #[.agg (tokV k 0 w).toArray, .int .i64 0]) ro (.blk p 77 [str tx, .int .i64 ((a + n : Nat) : Int), o] :: r))
    (hk2 : ∀ code : Nat, frontD (tx.drop a) = (0, [], 0, code) → code ≠ 0 → code ≤ 1000 → ∀ a' : Nat, a' ≤ tx.length → K (.tuple #[.agg (tokV 0 0 []).toArray, .int .i64 (code : Int)]) ro (.blk p 77 [str tx, .int .i64 (a' : Int), o] :: r)) :
    CallOk Tryd.prog 38 #[ptr' p] ro (.blk p 77 [str tx, .int .i64 (a : Int), o] :: r) K := by
  obtain ⟨u, hu⟩ : ∃ u, tx[a]? = some u := ⟨_, List.getElem?_eq_getElem hat⟩
  have hu2 : tx[(a : Int).toNat]! = u := by
    rw [Int.toNat_natCast, List.getElem!_eq_getElem?_getD, hu]; rfl
  have hd : tx.drop a = u :: tx.drop (a + 1) := by
    rw [List.drop_eq_getElem_cons hat]
    congr 1
    rw [List.getElem?_eq_getElem hat] at hu
    exact Option.some.inj hu
  have hun := u.toNat_lt
  have hfr : frontD (tx.drop a) = if letB u = true then (if 24 < ((tx.drop a).takeWhile wordB).length then (0, [], 0, 2) else (1, (tx.drop a).takeWhile wordB, ((tx.drop a).takeWhile wordB).length, 0))
    else if digB u = true then (if 20 < ((tx.drop a).takeWhile digB).length then (0, [], 0, 2) else if 1 < ((tx.drop a).takeWhile digB).length ∧ u.toNat = 48 then (0, [], 0, 5) else (2, (tx.drop a).takeWhile digB, ((tx.drop a).takeWhile digB).length, 0))
    else if u.toNat = 47 then (match patD (tx.drop (a + 1)) with
      | none => (0, [], 0, 5)
      | some w => (3, w, w.length + 2, 0))
    else match signsL.find? (·.isPrefixOf (tx.drop a)) with
      | some s => (4, s, s.length, 0)
      | none => (0, [], 0, 100) := by rw [hd]; rfl
  have hw1 := takeWhile_le wordB (tx.drop a)
  have hw2 := takeWhile_le digB (tx.drop a)
  rw [List.length_drop] at hw1 hw2
  have hp1 : letB u = true → 1 ≤ ((tx.drop a).takeWhile wordB).length := fun h => by
    rw [hd, List.takeWhile_cons, show wordB u = true by unfold wordB; rw [h]; rfl]; simp
  have hp2 : digB u = true → 1 ≤ ((tx.drop a).takeWhile digB).length ∧ ((tx.drop a).takeWhile digB)[0]! = u := fun h => by
    rw [hd, List.takeWhile_cons, h]; simp
  refine CallOk.intro (args := [_]) (rs := [_, _]) T_ok Tryd.func38 Tryd.call38 rfl rfl (by kernel_rfl) rfl rfl ?_
  repeat (first
    | (show _ ∧ _; exact ⟨rfl, rfl, rfl⟩)
    | refine wkT ?_
    | refine Bs.all ?_
    | (show RetOk _ _ _ _ _ _; refine RetOk.of (T := T) (RL.row rfl rfl LdN.hasBlk (by rfl) (RL.tmp rfl (RL.tmp rfl RL.nil))) ?_)
    | (show QOk _ _ _ _ _ _ _; refine QOk.build rfl rfl Nf.auto ?_)
    | (show OpOk _ _ _ _ _ _ _; first | refine opB (fun b => ?_) | refine opA (fun a' c' hc1 hc2 => ?_))
    | (show GJ _ _ _ _ _ _ _; first | refine GJ.t (by decide) ?_ | refine GJ.f (by decide) ?_ | refine GJ.ft (by decide) ?_ | refine GJ.ff (by decide) ?_)
    | (show Br _ _ _; first | refine Br.t (by decide) ?_ | refine Br.f (by decide) ?_)
    | (show GJ _ _ _ _ _ _ _; first | (apply GJ.and; exact rfl; intro hg) | (apply GJ.or; exact rfl; intro hg)))
  try rw [hu2]
  repeat (first
    | (show _ ∧ _; exact ⟨rfl, rfl, rfl⟩)
    | refine wkT ?_
    | refine Bs.all ?_
    | (show RetOk _ _ _ _ _ _; refine RetOk.of (T := T) (RL.row rfl rfl LdN.hasBlk (by rfl) (RL.tmp rfl (RL.tmp rfl RL.nil))) ?_)
    | (show QOk _ _ _ _ _ _ _; refine QOk.build rfl rfl Nf.auto ?_)
    | (show OpOk _ _ _ _ _ _ _; first | refine opB (fun b => ?_) | refine opA (fun a' c' hc1 hc2 => ?_))
    | (show GJ _ _ _ _ _ _ _; first | refine GJ.t (by decide) ?_ | refine GJ.f (by decide) ?_ | refine GJ.ft (by decide) ?_ | refine GJ.ff (by decide) ?_)
    | (show Br _ _ _; first | refine Br.t (by decide) ?_ | refine Br.f (by decide) ?_)
    | (show GJ _ _ _ _ _ _ _; first | (apply GJ.and; exact rfl; intro hg) | (apply GJ.or; exact rfl; intro hg)))
  refine letter_ok u _ _ _ ?_
  obtain ⟨x, hx⟩ : ∃ x, letB u = x := ⟨_, rfl⟩
  rw [hx] at hfr hp1 ⊢
  cases x with
  | true =>
    rw [if_pos rfl] at hfr
    have hp1 := hp1 rfl
    repeat (first
      | (show _ ∧ _; exact ⟨rfl, rfl, rfl⟩)
      | refine wkT ?_
      | refine Bs.all ?_
      | (show RetOk _ _ _ _ _ _; refine RetOk.of (T := T) (RL.row rfl rfl LdN.hasBlk (by rfl) (RL.tmp rfl (RL.tmp rfl RL.nil))) ?_)
      | (show QOk _ _ _ _ _ _ _; refine QOk.build rfl rfl Nf.auto ?_)
      | (show OpOk _ _ _ _ _ _ _; first | refine opB (fun b => ?_) | refine opA (fun a' c' hc1 hc2 => ?_))
      | (show GJ _ _ _ _ _ _ _; first | refine GJ.t (by decide) ?_ | refine GJ.f (by decide) ?_ | refine GJ.ft (by decide) ?_ | refine GJ.ff (by decide) ?_)
      | (show Br _ _ _; first | refine Br.t (by decide) ?_ | refine Br.f (by decide) ?_)
      | (show GJ _ _ _ _ _ _ _; first | (apply GJ.and; exact rfl; intro hg) | (apply GJ.or; exact rfl; intro hg)))
    refine CallOk.sup (own0 := .blk p 77 [str tx, .int .i64 (a : Int), o] :: .blk b 72 [.int .i64 0, .int .i64 0, str []] :: r) Sup.auto ?_
    refine while_ok word_ok (by omega) hl ?_
    generalize (tx.drop a).takeWhile wordB = w at *
    by_cases hg : 24 < w.length
    · rw [if_pos hg] at hfr
      have hk := hk2 2 hfr (by omega) (by omega) (a + w.length) (by omega)
      repeat (first
        | (show _ ∧ _; exact ⟨rfl, rfl, rfl⟩)
        | refine wkT ?_
        | refine Bs.all ?_
        | (show RetOk _ _ _ _ _ _; refine RetOk.of (T := T) (RL.row rfl rfl LdN.hasBlk (by rfl) (RL.tmp rfl (RL.tmp rfl RL.nil))) ?_)
        | (show QOk _ _ _ _ _ _ _; refine QOk.build rfl rfl Nf.auto ?_)
        | (show OpOk _ _ _ _ _ _ _; first | refine opB (fun b => ?_) | refine opA (fun a' c' hc1 hc2 => ?_))
        | (show GJ _ _ _ _ _ _ _; first | refine GJ.t (by decide) ?_ | refine GJ.f (by decide) ?_ | refine GJ.ft (by decide) ?_ | refine GJ.ff (by decide) ?_)
        | (show Br _ _ _; first | refine Br.t (by decide) ?_ | refine Br.f (by decide) ?_)
        | (show GJ _ _ _ _ _ _ _; first | (apply GJ.and; exact rfl; intro hg) | (apply GJ.or; exact rfl; intro hg)))
      exact Wk.outS Sup.auto (.refl _) hk
    · rw [if_neg hg] at hfr
      have hk := hk1 _ _ _ hfr (by omega) hp1
      repeat (first
        | (show _ ∧ _; exact ⟨rfl, rfl, rfl⟩)
        | refine wkT ?_
        | refine Bs.all ?_
        | (show RetOk _ _ _ _ _ _; refine RetOk.of (T := T) (RL.row rfl rfl LdN.hasBlk (by rfl) (RL.tmp rfl (RL.tmp rfl RL.nil))) ?_)
        | (show QOk _ _ _ _ _ _ _; refine QOk.build rfl rfl Nf.auto ?_)
        | (show OpOk _ _ _ _ _ _ _; first | refine opB (fun b => ?_) | refine opA (fun a' c' hc1 hc2 => ?_))
        | (show GJ _ _ _ _ _ _ _; first | refine GJ.t (by decide) ?_ | refine GJ.f (by decide) ?_ | refine GJ.ft (by decide) ?_ | refine GJ.ff (by decide) ?_)
        | (show Br _ _ _; first | refine Br.t (by decide) ?_ | refine Br.f (by decide) ?_)
        | (show GJ _ _ _ _ _ _ _; first | (apply GJ.and; exact rfl; intro hg) | (apply GJ.or; exact rfl; intro hg)))
      exact Wk.outS Sup.auto (.refl _) hk
  | false =>
    rw [if_neg (by simp)] at hfr
    repeat (first
      | (show _ ∧ _; exact ⟨rfl, rfl, rfl⟩)
      | refine wkT ?_
      | refine Bs.all ?_
      | (show RetOk _ _ _ _ _ _; refine RetOk.of (T := T) (RL.row rfl rfl LdN.hasBlk (by rfl) (RL.tmp rfl (RL.tmp rfl RL.nil))) ?_)
      | (show QOk _ _ _ _ _ _ _; refine QOk.build rfl rfl Nf.auto ?_)
      | (show OpOk _ _ _ _ _ _ _; first | refine opB (fun b => ?_) | refine opA (fun a' c' hc1 hc2 => ?_))
      | (show GJ _ _ _ _ _ _ _; first | refine GJ.t (by decide) ?_ | refine GJ.f (by decide) ?_ | refine GJ.ft (by decide) ?_ | refine GJ.ff (by decide) ?_)
      | (show Br _ _ _; first | refine Br.t (by decide) ?_ | refine Br.f (by decide) ?_)
      | (show GJ _ _ _ _ _ _ _; first | (apply GJ.and; exact rfl; intro hg) | (apply GJ.or; exact rfl; intro hg)))
    refine digit_ok u _ _ _ ?_
    obtain ⟨y, hy⟩ : ∃ y, digB u = y := ⟨_, rfl⟩
    rw [hy] at hfr hp2 ⊢
    cases y with
    | true =>
      rw [if_pos rfl] at hfr
      have hp2 := hp2 rfl
      repeat (first
        | (show _ ∧ _; exact ⟨rfl, rfl, rfl⟩)
        | refine wkT ?_
        | refine Bs.all ?_
        | (show RetOk _ _ _ _ _ _; refine RetOk.of (T := T) (RL.row rfl rfl LdN.hasBlk (by rfl) (RL.tmp rfl (RL.tmp rfl RL.nil))) ?_)
        | (show QOk _ _ _ _ _ _ _; refine QOk.build rfl rfl Nf.auto ?_)
        | (show OpOk _ _ _ _ _ _ _; first | refine opB (fun b => ?_) | refine opA (fun a' c' hc1 hc2 => ?_))
        | (show GJ _ _ _ _ _ _ _; first | refine GJ.t (by decide) ?_ | refine GJ.f (by decide) ?_ | refine GJ.ft (by decide) ?_ | refine GJ.ff (by decide) ?_)
        | (show Br _ _ _; first | refine Br.t (by decide) ?_ | refine Br.f (by decide) ?_)
        | (show GJ _ _ _ _ _ _ _; first | (apply GJ.and; exact rfl; intro hg) | (apply GJ.or; exact rfl; intro hg)))
      refine CallOk.sup (own0 := .blk p 77 [str tx, .int .i64 (a : Int), o] :: .blk b 72 [.int .i64 0, .int .i64 0, str []] :: r) Sup.auto ?_
      refine while_ok digit_ok (by omega) hl ?_
      generalize (tx.drop a).takeWhile digB = w at *
      obtain ⟨hp2, hp3⟩ := hp2
      by_cases hg : 20 < w.length
      · rw [if_pos hg] at hfr
        have hk := hk2 2 hfr (by omega) (by omega) (a + w.length) (by omega)
        repeat (first
          | (show _ ∧ _; exact ⟨rfl, rfl, rfl⟩)
          | refine wkT ?_
          | refine Bs.all ?_
          | (show RetOk _ _ _ _ _ _; refine RetOk.of (T := T) (RL.row rfl rfl LdN.hasBlk (by rfl) (RL.tmp rfl (RL.tmp rfl RL.nil))) ?_)
          | (show QOk _ _ _ _ _ _ _; refine QOk.build rfl rfl Nf.auto ?_)
          | (show OpOk _ _ _ _ _ _ _; first | refine opB (fun b => ?_) | refine opA (fun a' c' hc1 hc2 => ?_))
          | (show GJ _ _ _ _ _ _ _; first | refine GJ.t (by decide) ?_ | refine GJ.f (by decide) ?_ | refine GJ.ft (by decide) ?_ | refine GJ.ff (by decide) ?_)
          | (show Br _ _ _; first | refine Br.t (by decide) ?_ | refine Br.f (by decide) ?_)
          | (show GJ _ _ _ _ _ _ _; first | (apply GJ.and; exact rfl; intro hg) | (apply GJ.or; exact rfl; intro hg)))
        exact Wk.outS Sup.auto (.refl _) hk
      · rw [if_neg hg] at hfr
        have hp4 : w[Int.toNat 0]! = u := hp3
        by_cases hg1 : 1 < w.length
        · by_cases h48 : u.toNat = 48
          · rw [if_pos ⟨hg1, h48⟩] at hfr
            have hk := hk2 5 hfr (by omega) (by omega) (a + w.length) (by omega)
            repeat (first
              | (show _ ∧ _; exact ⟨rfl, rfl, rfl⟩)
              | refine wkT ?_
              | refine Bs.all ?_
              | (show RetOk _ _ _ _ _ _; refine RetOk.of (T := T) (RL.row rfl rfl LdN.hasBlk (by rfl) (RL.tmp rfl (RL.tmp rfl RL.nil))) ?_)
              | (show QOk _ _ _ _ _ _ _; refine QOk.build rfl rfl Nf.auto ?_)
              | (show OpOk _ _ _ _ _ _ _; first | refine opB (fun b => ?_) | refine opA (fun a' c' hc1 hc2 => ?_))
              | (show GJ _ _ _ _ _ _ _; first | refine GJ.t (by decide) ?_ | refine GJ.f (by decide) ?_ | refine GJ.ft (by decide) ?_ | refine GJ.ff (by decide) ?_)
              | (show Br _ _ _; first | refine Br.t (by decide) ?_ | refine Br.f (by decide) ?_)
              | (show GJ _ _ _ _ _ _ _; first | (apply GJ.and; exact rfl; intro hg) | (apply GJ.or; exact rfl; intro hg)))
            try rw [hp4]
            repeat (first
              | (show _ ∧ _; exact ⟨rfl, rfl, rfl⟩)
              | refine wkT ?_
              | refine Bs.all ?_
              | (show RetOk _ _ _ _ _ _; refine RetOk.of (T := T) (RL.row rfl rfl LdN.hasBlk (by rfl) (RL.tmp rfl (RL.tmp rfl RL.nil))) ?_)
              | (show QOk _ _ _ _ _ _ _; refine QOk.build rfl rfl Nf.auto ?_)
              | (show OpOk _ _ _ _ _ _ _; first | refine opB (fun b => ?_) | refine opA (fun a' c' hc1 hc2 => ?_))
              | (show GJ _ _ _ _ _ _ _; first | refine GJ.t (by decide) ?_ | refine GJ.f (by decide) ?_ | refine GJ.ft (by decide) ?_ | refine GJ.ff (by decide) ?_)
              | (show Br _ _ _; first | refine Br.t (by decide) ?_ | refine Br.f (by decide) ?_)
              | (show GJ _ _ _ _ _ _ _; first | (apply GJ.and; exact rfl; intro hg) | (apply GJ.or; exact rfl; intro hg)))
            exact Wk.outS Sup.auto (.refl _) hk
          · rw [if_neg (fun h => h48 h.2)] at hfr
            have hk := hk1 _ _ _ hfr (by omega) hp2
            repeat (first
              | (show _ ∧ _; exact ⟨rfl, rfl, rfl⟩)
              | refine wkT ?_
              | refine Bs.all ?_
              | (show RetOk _ _ _ _ _ _; refine RetOk.of (T := T) (RL.row rfl rfl LdN.hasBlk (by rfl) (RL.tmp rfl (RL.tmp rfl RL.nil))) ?_)
              | (show QOk _ _ _ _ _ _ _; refine QOk.build rfl rfl Nf.auto ?_)
              | (show OpOk _ _ _ _ _ _ _; first | refine opB (fun b => ?_) | refine opA (fun a' c' hc1 hc2 => ?_))
              | (show GJ _ _ _ _ _ _ _; first | refine GJ.t (by decide) ?_ | refine GJ.f (by decide) ?_ | refine GJ.ft (by decide) ?_ | refine GJ.ff (by decide) ?_)
              | (show Br _ _ _; first | refine Br.t (by decide) ?_ | refine Br.f (by decide) ?_)
              | (show GJ _ _ _ _ _ _ _; first | (apply GJ.and; exact rfl; intro hg) | (apply GJ.or; exact rfl; intro hg)))
            try rw [hp4]
            repeat (first
              | (show _ ∧ _; exact ⟨rfl, rfl, rfl⟩)
              | refine wkT ?_
              | refine Bs.all ?_
              | (show RetOk _ _ _ _ _ _; refine RetOk.of (T := T) (RL.row rfl rfl LdN.hasBlk (by rfl) (RL.tmp rfl (RL.tmp rfl RL.nil))) ?_)
              | (show QOk _ _ _ _ _ _ _; refine QOk.build rfl rfl Nf.auto ?_)
              | (show OpOk _ _ _ _ _ _ _; first | refine opB (fun b => ?_) | refine opA (fun a' c' hc1 hc2 => ?_))
              | (show GJ _ _ _ _ _ _ _; first | refine GJ.t (by decide) ?_ | refine GJ.f (by decide) ?_ | refine GJ.ft (by decide) ?_ | refine GJ.ff (by decide) ?_)
              | (show Br _ _ _; first | refine Br.t (by decide) ?_ | refine Br.f (by decide) ?_)
              | (show GJ _ _ _ _ _ _ _; first | (apply GJ.and; exact rfl; intro hg) | (apply GJ.or; exact rfl; intro hg)))
            exact Wk.outS Sup.auto (.refl _) hk
        · rw [if_neg (fun h => hg1 h.1)] at hfr
          have hk := hk1 _ _ _ hfr (by omega) hp2
          repeat (first
            | (show _ ∧ _; exact ⟨rfl, rfl, rfl⟩)
            | refine wkT ?_
            | refine Bs.all ?_
            | (show RetOk _ _ _ _ _ _; refine RetOk.of (T := T) (RL.row rfl rfl LdN.hasBlk (by rfl) (RL.tmp rfl (RL.tmp rfl RL.nil))) ?_)
            | (show QOk _ _ _ _ _ _ _; refine QOk.build rfl rfl Nf.auto ?_)
            | (show OpOk _ _ _ _ _ _ _; first | refine opB (fun b => ?_) | refine opA (fun a' c' hc1 hc2 => ?_))
            | (show GJ _ _ _ _ _ _ _; first | refine GJ.t (by decide) ?_ | refine GJ.f (by decide) ?_ | refine GJ.ft (by decide) ?_ | refine GJ.ff (by decide) ?_)
            | (show Br _ _ _; first | refine Br.t (by decide) ?_ | refine Br.f (by decide) ?_)
            | (show GJ _ _ _ _ _ _ _; first | (apply GJ.and; exact rfl; intro hg) | (apply GJ.or; exact rfl; intro hg)))
          exact Wk.outS Sup.auto (.refl _) hk
    | false =>
      rw [if_neg (by simp)] at hfr
      by_cases h47 : u.toNat = 47
      · rw [if_pos h47] at hfr
        repeat (first
          | (show _ ∧ _; exact ⟨rfl, rfl, rfl⟩)
          | refine wkT ?_
          | refine Bs.all ?_
          | (show RetOk _ _ _ _ _ _; refine RetOk.of (T := T) (RL.row rfl rfl LdN.hasBlk (by rfl) (RL.tmp rfl (RL.tmp rfl RL.nil))) ?_)
          | (show QOk _ _ _ _ _ _ _; refine QOk.build rfl rfl Nf.auto ?_)
          | (show OpOk _ _ _ _ _ _ _; first | refine opB (fun b => ?_) | refine opA (fun a' c' hc1 hc2 => ?_))
          | (show GJ _ _ _ _ _ _ _; first | refine GJ.t (by decide) ?_ | refine GJ.f (by decide) ?_ | refine GJ.ft (by decide) ?_ | refine GJ.ff (by decide) ?_)
          | (show Br _ _ _; first | refine Br.t (by decide) ?_ | refine Br.f (by decide) ?_)
          | (show GJ _ _ _ _ _ _ _; first | (apply GJ.and; exact rfl; intro hg) | (apply GJ.or; exact rfl; intro hg)))
        refine CallOk.sup (own0 := .blk p 77 [str tx, .int .i64 (a : Int), o] :: .blk b 72 [.int .i64 0, .int .i64 0, str []] :: r) Sup.auto ?_
        refine pattern_ok hat hl (fun w hw hwl => ?_) (fun hw a' ha' => ?_)
        · rw [hw] at hfr
          have hk := hk1 _ _ _ hfr (by omega) (by omega)
          rw [show a + (w.length + 2) = a + w.length + 2 by omega] at hk
          repeat (first
            | (show _ ∧ _; exact ⟨rfl, rfl, rfl⟩)
            | refine wkT ?_
            | refine Bs.all ?_
            | (show RetOk _ _ _ _ _ _; refine RetOk.of (T := T) (RL.row rfl rfl LdN.hasBlk (by rfl) (RL.tmp rfl (RL.tmp rfl RL.nil))) ?_)
            | (show QOk _ _ _ _ _ _ _; refine QOk.build rfl rfl Nf.auto ?_)
            | (show OpOk _ _ _ _ _ _ _; first | refine opB (fun b => ?_) | refine opA (fun a' c' hc1 hc2 => ?_))
            | (show GJ _ _ _ _ _ _ _; first | refine GJ.t (by decide) ?_ | refine GJ.f (by decide) ?_ | refine GJ.ft (by decide) ?_ | refine GJ.ff (by decide) ?_)
            | (show Br _ _ _; first | refine Br.t (by decide) ?_ | refine Br.f (by decide) ?_)
            | (show GJ _ _ _ _ _ _ _; first | (apply GJ.and; exact rfl; intro hg) | (apply GJ.or; exact rfl; intro hg)))
          exact Wk.outS Sup.auto (.refl _) hk
        · rw [hw] at hfr
          have hk := hk2 5 hfr (by omega) (by omega) a' ha'
          repeat (first
            | (show _ ∧ _; exact ⟨rfl, rfl, rfl⟩)
            | refine wkT ?_
            | refine Bs.all ?_
            | (show RetOk _ _ _ _ _ _; refine RetOk.of (T := T) (RL.row rfl rfl LdN.hasBlk (by rfl) (RL.tmp rfl (RL.tmp rfl RL.nil))) ?_)
            | (show QOk _ _ _ _ _ _ _; refine QOk.build rfl rfl Nf.auto ?_)
            | (show OpOk _ _ _ _ _ _ _; first | refine opB (fun b => ?_) | refine opA (fun a' c' hc1 hc2 => ?_))
            | (show GJ _ _ _ _ _ _ _; first | refine GJ.t (by decide) ?_ | refine GJ.f (by decide) ?_ | refine GJ.ft (by decide) ?_ | refine GJ.ff (by decide) ?_)
            | (show Br _ _ _; first | refine Br.t (by decide) ?_ | refine Br.f (by decide) ?_)
            | (show GJ _ _ _ _ _ _ _; first | (apply GJ.and; exact rfl; intro hg) | (apply GJ.or; exact rfl; intro hg)))
          exact Wk.outS Sup.auto (.refl _) hk
      · rw [if_neg h47] at hfr
        repeat (first
          | (show _ ∧ _; exact ⟨rfl, rfl, rfl⟩)
          | refine wkT ?_
          | refine Bs.all ?_
          | (show RetOk _ _ _ _ _ _; refine RetOk.of (T := T) (RL.row rfl rfl LdN.hasBlk (by rfl) (RL.tmp rfl (RL.tmp rfl RL.nil))) ?_)
          | (show QOk _ _ _ _ _ _ _; refine QOk.build rfl rfl Nf.auto ?_)
          | (show OpOk _ _ _ _ _ _ _; first | refine opB (fun b => ?_) | refine opA (fun a' c' hc1 hc2 => ?_))
          | (show GJ _ _ _ _ _ _ _; first | refine GJ.t (by decide) ?_ | refine GJ.f (by decide) ?_ | refine GJ.ft (by decide) ?_ | refine GJ.ff (by decide) ?_)
          | (show Br _ _ _; first | refine Br.t (by decide) ?_ | refine Br.f (by decide) ?_)
          | (show GJ _ _ _ _ _ _ _; first | (apply GJ.and; exact rfl; intro hg) | (apply GJ.or; exact rfl; intro hg)))
        refine fields_ok hS (fun bf => ?_)
        have hsl := signs_len
        have hs14 : signsL.length = 14 := rfl
        have hnn : (∀ i, i < 14 → (signsL[i]!).isPrefixOf (tx.drop a) = false) → signsL.find? (·.isPrefixOf (tx.drop a)) = none := fun h => by
          refine find_none fun x hx => ?_
          obtain ⟨i, hi, rfl⟩ := List.getElem_of_mem hx
          have := h i hi
          rwa [getElem!_pos signsL i hi] at this
        have hff : ∀ j, j < 14 → (signsL[j]!).isPrefixOf (tx.drop a) = true → (∀ i, i < j → (signsL[i]!).isPrefixOf (tx.drop a) = false) → signsL.find? (·.isPrefixOf (tx.drop a)) = some signsL[j]! := fun j hj h1 h2 => find_at (by omega) h1 h2
        generalize signsL.find? (·.isPrefixOf (tx.drop a)) = fo at hfr hnn hff
        generalize signsL = sl at *
        have hml : (List.map str sl).length = 14 := by rw [List.length_map]; exact hs14
        repeat (first
          | (show _ ∧ _; exact ⟨rfl, rfl, rfl⟩)
          | refine wkT ?_
          | refine Bs.all ?_
          | (show RetOk _ _ _ _ _ _; refine RetOk.of (T := T) (RL.row rfl rfl LdN.hasBlk (by rfl) (RL.tmp rfl (RL.tmp rfl RL.nil))) ?_)
          | (show QOk _ _ _ _ _ _ _; refine QOk.build rfl rfl Nf.auto ?_)
          | (show OpOk _ _ _ _ _ _ _; first | refine opB (fun b => ?_) | refine opA (fun a' c' hc1 hc2 => ?_))
          | (show GJ _ _ _ _ _ _ _; first | refine GJ.t (by decide) ?_ | refine GJ.f (by decide) ?_ | refine GJ.ft (by decide) ?_ | refine GJ.ff (by decide) ?_)
          | (show Br _ _ _; first | refine Br.t (by decide) ?_ | refine Br.f (by decide) ?_)
          | (show GJ _ _ _ _ _ _ _; first | (apply GJ.and; exact rfl; intro hg) | (apply GJ.or; exact rfl; intro hg)))
        refine LoopOk.at (ι := Nat) Keep.auto (fun j => [(58, .int .i64 (j : Int))]) (fun j => .sl (some ⟨bf, 0, none⟩) 14 14 9 1 (sl.map str) :: .blk b 72 [.int .i64 0, .int .i64 0, str []] :: .blk p 77 [str tx, .int .i64 (a : Int), o] :: r) (fun j => j ≤ 14 ∧ ∀ i, i < j → (sl[i]!).isPrefixOf (tx.drop a) = false) (fun j => 14 - j) 0 ?_ Sub.auto Sup.auto ?_
        · exact ⟨Nat.zero_le _, fun i hi => absurd hi (by omega)⟩
        rintro j ⟨j1, j2⟩
        dsimp only [List.cons_append, List.nil_append] at j1 j2 ⊢
        by_cases hj : j < 14
        · have hsj := hsl j hj
          have hfj := hff j hj
          have hgm : (sl.map str)[j]? = some (str sl[j]!) := getMap (by omega)
          have hjj : sl[j]! = sl[j]! := rfl
          have hj2 : ∀ i, i < j + 1 → i ≠ j → (sl[i]!).isPrefixOf (tx.drop a) = false := fun i hi hne => j2 i (by omega)
          generalize hsv : sl[j]! = s at hsj hfj hgm
          have hpre : s.isPrefixOf (tx.drop a) = true → s.length ≤ tx.length - a := fun h => by
            have := (List.isPrefixOf_iff_prefix.1 h).length_le
            rwa [List.length_drop] at this
          have ej : sl[((j : Nat) : Int).toNat]! = s := by rw [Int.toNat_natCast]; exact hsv
          repeat (first
            | (show _ ∧ _; exact ⟨rfl, rfl, rfl⟩)
            | refine wkT ?_
            | refine Bs.all ?_
            | (show RetOk _ _ _ _ _ _; refine RetOk.of (T := T) (RL.row rfl rfl LdN.hasBlk (by rfl) (RL.tmp rfl (RL.tmp rfl RL.nil))) ?_)
            | (show QOk _ _ _ _ _ _ _; refine QOk.build rfl rfl Nf.auto ?_)
            | (show OpOk _ _ _ _ _ _ _; first | refine opB (fun b => ?_) | refine opA (fun a' c' hc1 hc2 => ?_))
            | (show GJ _ _ _ _ _ _ _; first | refine GJ.t (by decide) ?_ | refine GJ.f (by decide) ?_ | refine GJ.ft (by decide) ?_ | refine GJ.ff (by decide) ?_)
            | (show Br _ _ _; first | refine Br.t (by decide) ?_ | refine Br.f (by decide) ?_)
            | (show GJ _ _ _ _ _ _ _; first | (apply GJ.and; exact rfl; intro hg) | (apply GJ.or; exact rfl; intro hg)))
          rw [ej, Int.toNat_natCast a]
          refine prefix_ok (by rw [List.length_drop]; omega) (by omega) ?_
          obtain ⟨q, hq⟩ : ∃ q, s.isPrefixOf (tx.drop a) = q := ⟨_, rfl⟩
          rw [hq] at hfj hpre ⊢
          cases q with
          | true =>
            have hpl := hpre rfl
            have hk := hk1 4 s s.length (by rw [hfr, hfj rfl j2]) (by omega) (by omega)
            repeat (first
              | (show _ ∧ _; exact ⟨rfl, rfl, rfl⟩)
              | refine wkT ?_
              | refine Bs.all ?_
              | (show RetOk _ _ _ _ _ _; refine RetOk.of (T := T) (RL.row rfl rfl LdN.hasBlk (by rfl) (RL.tmp rfl (RL.tmp rfl RL.nil))) ?_)
              | (show QOk _ _ _ _ _ _ _; refine QOk.build rfl rfl Nf.auto ?_)
              | (show OpOk _ _ _ _ _ _ _; first | refine opB (fun b => ?_) | refine opA (fun a' c' hc1 hc2 => ?_))
              | (show GJ _ _ _ _ _ _ _; first | refine GJ.t (by decide) ?_ | refine GJ.f (by decide) ?_ | refine GJ.ft (by decide) ?_ | refine GJ.ff (by decide) ?_)
              | (show Br _ _ _; first | refine Br.t (by decide) ?_ | refine Br.f (by decide) ?_)
              | (show GJ _ _ _ _ _ _ _; first | (apply GJ.and; exact rfl; intro hg) | (apply GJ.or; exact rfl; intro hg)))
            exact Wk.outS Sup.auto (.refl _) hk
          | false =>
            repeat (first
              | (show _ ∧ _; exact ⟨rfl, rfl, rfl⟩)
              | refine wkT ?_
              | refine Bs.all ?_
              | (show RetOk _ _ _ _ _ _; refine RetOk.of (T := T) (RL.row rfl rfl LdN.hasBlk (by rfl) (RL.tmp rfl (RL.tmp rfl RL.nil))) ?_)
              | (show QOk _ _ _ _ _ _ _; refine QOk.build rfl rfl Nf.auto ?_)
              | (show OpOk _ _ _ _ _ _ _; first | refine opB (fun b => ?_) | refine opA (fun a' c' hc1 hc2 => ?_))
              | (show GJ _ _ _ _ _ _ _; first | refine GJ.t (by decide) ?_ | refine GJ.f (by decide) ?_ | refine GJ.ft (by decide) ?_ | refine GJ.ff (by decide) ?_)
              | (show Br _ _ _; first | refine Br.t (by decide) ?_ | refine Br.f (by decide) ?_)
              | (show GJ _ _ _ _ _ _ _; first | (apply GJ.and; exact rfl; intro hg) | (apply GJ.or; exact rfl; intro hg)))
            refine Wk.id ⟨j + 1, ⟨rfl, ?_⟩, ?_, Sub.auto, Sup.auto⟩
            all_goals try dsimp only
            · refine ⟨by omega, fun i hi => ?_⟩
              by_cases hij : i = j
              · rw [hij, hsv, hq]
              · exact hj2 i hi hij
            · omega
        · have hk := hk2 100 (by rw [hfr, hnn (fun i hi => j2 i (by omega))]) (by omega) (by omega) a (by omega)
          repeat (first
            | (show _ ∧ _; exact ⟨rfl, rfl, rfl⟩)
            | refine wkT ?_
            | refine Bs.all ?_
            | (show RetOk _ _ _ _ _ _; refine RetOk.of (T := T) (RL.row rfl rfl LdN.hasBlk (by rfl) (RL.tmp rfl (RL.tmp rfl RL.nil))) ?_)
            | (show QOk _ _ _ _ _ _ _; refine QOk.build rfl rfl Nf.auto ?_)
            | (show OpOk _ _ _ _ _ _ _; first | refine opB (fun b => ?_) | refine opA (fun a' c' hc1 hc2 => ?_))
            | (show GJ _ _ _ _ _ _ _; first | refine GJ.t (by decide) ?_ | refine GJ.f (by decide) ?_ | refine GJ.ft (by decide) ?_ | refine GJ.ff (by decide) ?_)
            | (show Br _ _ _; first | refine Br.t (by decide) ?_ | refine Br.f (by decide) ?_)
            | (show GJ _ _ _ _ _ _ _; first | (apply GJ.and; exact rfl; intro hg) | (apply GJ.or; exact rfl; intro hg)))
          exact Wk.outS Sup.auto (.refl _) hk
end
end Go.Proofs.YtniofdklhlbphaaDoor
