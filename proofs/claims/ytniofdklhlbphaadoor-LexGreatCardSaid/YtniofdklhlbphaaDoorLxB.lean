/- What is between two tokens; contracts of lex: gap, pattern. -/
import Derived.Test.YtniofdklhlbphaaDoorLxA
namespace Go.Proofs.YtniofdklhlbphaaDoor
open Go Go.E
set_option linter.unusedVariables false
set_option linter.unusedSimpArgs false
set_option maxRecDepth 10000
def gapD : Bool → List UInt8 → Nat
  | _, [] => 0
  | n, c :: r => if c.toNat = 10 then 1 + gapD false r else if n = true ∨ c.toNat = 32 ∨ c.toNat = 9 ∨ c.toNat = 13 then 1 + gapD n r else if c.toNat = 35 then 1 + gapD true r else 0
theorem gapD_le : ∀ (l : List UInt8) (n : Bool), gapD n l ≤ l.length
  | [], n => by cases n <;> simp [gapD]
  | c :: r, n => by
    have h1 := gapD_le r false
    have h2 := gapD_le r true
    have h3 := gapD_le r n
    rw [gapD, List.length_cons]
    split
    · omega
    · split
      · omega
      · split
        · omega
        · omega
theorem gapD_note : ∀ (r : List UInt8), gapD true r = (r.takeWhile nlB).length + gapD false (r.drop (r.takeWhile nlB).length)
  | [] => rfl
  | c :: r => by
    rw [List.takeWhile_cons]
    by_cases h : c.toNat = 10
    · have : nlB c = false := by unfold nlB; simp [h]
      rw [this]
      simp [gapD, h]
    · have : nlB c = true := by unfold nlB; simp [h]
      rw [this, gapD, if_neg h, if_pos (.inl rfl), gapD_note r]
      simp
      omega
theorem gapD_hash {c : UInt8} (r : List UInt8) (h : c.toNat = 35) : gapD false (c :: r) = ((c :: r).takeWhile nlB).length + gapD false ((c :: r).drop ((c :: r).takeWhile nlB).length) := by
  have h1 : nlB c = true := by unfold nlB; simp [h]
  rw [List.takeWhile_cons, h1, gapD, if_neg (by omega), if_neg (by simp; omega), if_pos h, gapD_note r]
  simp
  omega
section
variable {ro : Ro} {own r : Chs} {K : Value → Ro → Chs → Prop} {g : Chunk → Chs}
theorem gap_ok {b a : Nat} {tx : List UInt8} {o : Value} (hat : a ≤ tx.length) (hl : tx.length ≤ 100000)
    (hk : K (.tuple #[]) ro (.blk b 77 [str tx, .int .i64 ((a + gapD false (tx.drop a) : Nat) : Int), o] :: r)) : CallOk Tryd.prog 37 #[ptr' b] ro (.blk b 77 [str tx, .int .i64 (a : Int), o] :: r) K := by
  refine CallOk.intro (args := [_]) (rs := []) T_ok Tryd.func37 Tryd.call37 rfl rfl (by kernel_rfl) rfl rfl ?_
  repeat (first
    | (show _ ∧ _; exact ⟨rfl, rfl, rfl⟩)
    | refine wkT ?_
    | (show OpOk _ _ _ _ _ _ _; first | refine opB (fun b => ?_) | refine opA (fun a' c' hc1 hc2 => ?_))
    | (show GJ _ _ _ _ _ _ _; first | (apply GJ.and; exact rfl; intro hg) | (apply GJ.or; exact rfl; intro hg)))
  refine CodeOk.scope ?_
  repeat (first
    | (show _ ∧ _; exact ⟨rfl, rfl, rfl⟩)
    | refine wkT ?_
    | (show OpOk _ _ _ _ _ _ _; first | refine opB (fun b => ?_) | refine opA (fun a' c' hc1 hc2 => ?_))
    | (show GJ _ _ _ _ _ _ _; first | (apply GJ.and; exact rfl; intro hg) | (apply GJ.or; exact rfl; intro hg)))
  refine LoopOk.at (ι := Nat) Keep.auto (fun i => []) (fun i => .blk b 77 [str tx, .int .i64 ((a + i : Nat) : Int), o] :: r) (fun i => a + i ≤ tx.length ∧ i + gapD false (tx.drop (a + i)) = gapD false (tx.drop a)) (fun i => tx.length - (a + i)) 0 ?_ Sub.auto Sup.auto ?_
  · exact ⟨by omega, by simp⟩
  rintro i ⟨i1, i2⟩
  dsimp only [List.cons_append, List.nil_append] at i1 i2 ⊢
  by_cases hb : a + i < tx.length
  · obtain ⟨u, hu⟩ : ∃ u, tx[a + i]? = some u := ⟨_, List.getElem?_eq_getElem hb⟩
    have hu2 : tx[((a + i : Nat) : Int).toNat]! = u := by
      rw [Int.toNat_natCast, List.getElem!_eq_getElem?_getD, hu]; rfl
    have hd : tx.drop (a + i) = u :: tx.drop (a + (i + 1)) := by
      rw [List.drop_eq_getElem_cons hb]
      congr 1
      rw [List.getElem?_eq_getElem hb] at hu
      exact Option.some.inj hu
    have hun := u.toNat_lt
    rw [hd, gapD] at i2
    repeat (first
      | (show _ ∧ _; exact ⟨rfl, rfl, rfl⟩)
      | refine wkT ?_
      | refine Bs.all ?_
      | (show RetOk _ _ _ _ _ _; refine RetOk.of (T := T) (RL.row rfl rfl LdN.hasBlk (by rfl) (RL.tmp rfl (RL.tmp rfl RL.nil))) ?_)
      | (show QOk _ _ _ _ _ _ _; refine QOk.build rfl rfl Nf.auto ?_)
      | (show OpOk _ _ _ _ _ _ _; first | refine opB (fun b => ?_) | refine opA (fun a' c' hc1 hc2 => ?_))
      | (show GJ _ _ _ _ _ _ _; first | refine GJ.t (by decide) ?_ | refine GJ.f (by decide) ?_ | refine GJ.ft (by decide) ?_ | refine GJ.ff (by decide) ?_)
      | (show Br _ _ _; first | refine Br.t (by decide) ?_ | refine Br.f (by decide) ?_)
      | (show GJ _ _ _ _ _ _ _; first | (apply GJ.and; exact rfl; intro hg) | (apply GJ.or; exact rfl; intro hg)))
    try rw [hu2]
    refine SeqOk.pass ?_
    by_cases h1 : u.toNat = 32
    · rw [if_neg (by omega), if_pos (.inr (.inl h1))] at i2
      repeat (first
        | (show _ ∧ _; exact ⟨rfl, rfl, rfl⟩)
        | refine wkT ?_
        | refine Bs.all ?_
        | (show RetOk _ _ _ _ _ _; refine RetOk.of (T := T) (RL.row rfl rfl LdN.hasBlk (by rfl) (RL.tmp rfl (RL.tmp rfl RL.nil))) ?_)
        | (show QOk _ _ _ _ _ _ _; refine QOk.build rfl rfl Nf.auto ?_)
        | (show OpOk _ _ _ _ _ _ _; first | refine opB (fun b => ?_) | refine opA (fun a' c' hc1 hc2 => ?_))
        | (show GJ _ _ _ _ _ _ _; first | refine GJ.t (by decide) ?_ | refine GJ.f (by decide) ?_ | refine GJ.ft (by decide) ?_ | refine GJ.ff (by decide) ?_)
        | (show Br _ _ _; first | refine Br.t (by decide) ?_ | refine Br.f (by decide) ?_)
        | (show GJ _ _ _ _ _ _ _; first | (apply GJ.and; exact rfl; intro hg) | (apply GJ.or; exact rfl; intro hg)))
      refine Wk.id ⟨i + 1, ⟨rfl, ?_⟩, ?_, Sub.auto, Sup.auto⟩
      all_goals try dsimp only
      · exact ⟨by omega, by omega⟩
      · omega
    · by_cases h2 : u.toNat = 9
      · rw [if_neg (by omega), if_pos (.inr (.inr (.inl h2)))] at i2
        repeat (first
          | (show _ ∧ _; exact ⟨rfl, rfl, rfl⟩)
          | refine wkT ?_
          | refine Bs.all ?_
          | (show RetOk _ _ _ _ _ _; refine RetOk.of (T := T) (RL.row rfl rfl LdN.hasBlk (by rfl) (RL.tmp rfl (RL.tmp rfl RL.nil))) ?_)
          | (show QOk _ _ _ _ _ _ _; refine QOk.build rfl rfl Nf.auto ?_)
          | (show OpOk _ _ _ _ _ _ _; first | refine opB (fun b => ?_) | refine opA (fun a' c' hc1 hc2 => ?_))
          | (show GJ _ _ _ _ _ _ _; first | refine GJ.t (by decide) ?_ | refine GJ.f (by decide) ?_ | refine GJ.ft (by decide) ?_ | refine GJ.ff (by decide) ?_)
          | (show Br _ _ _; first | refine Br.t (by decide) ?_ | refine Br.f (by decide) ?_)
          | (show GJ _ _ _ _ _ _ _; first | (apply GJ.and; exact rfl; intro hg) | (apply GJ.or; exact rfl; intro hg)))
        refine Wk.id ⟨i + 1, ⟨rfl, ?_⟩, ?_, Sub.auto, Sup.auto⟩
        all_goals try dsimp only
        · exact ⟨by omega, by omega⟩
        · omega
      · by_cases h3 : u.toNat = 10
        · rw [if_pos h3] at i2
          repeat (first
            | (show _ ∧ _; exact ⟨rfl, rfl, rfl⟩)
            | refine wkT ?_
            | refine Bs.all ?_
            | (show RetOk _ _ _ _ _ _; refine RetOk.of (T := T) (RL.row rfl rfl LdN.hasBlk (by rfl) (RL.tmp rfl (RL.tmp rfl RL.nil))) ?_)
            | (show QOk _ _ _ _ _ _ _; refine QOk.build rfl rfl Nf.auto ?_)
            | (show OpOk _ _ _ _ _ _ _; first | refine opB (fun b => ?_) | refine opA (fun a' c' hc1 hc2 => ?_))
            | (show GJ _ _ _ _ _ _ _; first | refine GJ.t (by decide) ?_ | refine GJ.f (by decide) ?_ | refine GJ.ft (by decide) ?_ | refine GJ.ff (by decide) ?_)
            | (show Br _ _ _; first | refine Br.t (by decide) ?_ | refine Br.f (by decide) ?_)
            | (show GJ _ _ _ _ _ _ _; first | (apply GJ.and; exact rfl; intro hg) | (apply GJ.or; exact rfl; intro hg)))
          refine Wk.id ⟨i + 1, ⟨rfl, ?_⟩, ?_, Sub.auto, Sup.auto⟩
          all_goals try dsimp only
          · exact ⟨by omega, by omega⟩
          · omega
        · by_cases h4 : u.toNat = 13
          · rw [if_neg h3, if_pos (.inr (.inr (.inr h4)))] at i2
            repeat (first
              | (show _ ∧ _; exact ⟨rfl, rfl, rfl⟩)
              | refine wkT ?_
              | refine Bs.all ?_
              | (show RetOk _ _ _ _ _ _; refine RetOk.of (T := T) (RL.row rfl rfl LdN.hasBlk (by rfl) (RL.tmp rfl (RL.tmp rfl RL.nil))) ?_)
              | (show QOk _ _ _ _ _ _ _; refine QOk.build rfl rfl Nf.auto ?_)
              | (show OpOk _ _ _ _ _ _ _; first | refine opB (fun b => ?_) | refine opA (fun a' c' hc1 hc2 => ?_))
              | (show GJ _ _ _ _ _ _ _; first | refine GJ.t (by decide) ?_ | refine GJ.f (by decide) ?_ | refine GJ.ft (by decide) ?_ | refine GJ.ff (by decide) ?_)
              | (show Br _ _ _; first | refine Br.t (by decide) ?_ | refine Br.f (by decide) ?_)
              | (show GJ _ _ _ _ _ _ _; first | (apply GJ.and; exact rfl; intro hg) | (apply GJ.or; exact rfl; intro hg)))
            refine Wk.id ⟨i + 1, ⟨rfl, ?_⟩, ?_, Sub.auto, Sup.auto⟩
            all_goals try dsimp only
            · exact ⟨by omega, by omega⟩
            · omega
          · by_cases h5 : u.toNat = 35
            · have hh := gapD_hash (tx.drop (a + (i + 1))) h5
              rw [gapD] at hh
              rw [hh, ← hd] at i2
              have hwl := takeWhile_le nlB (tx.drop (a + i))
              rw [List.length_drop] at hwl
              have hw1 : 1 ≤ ((tx.drop (a + i)).takeWhile nlB).length := by
                have : nlB u = true := by unfold nlB; simp [h5]
                rw [hd, List.takeWhile_cons, this]; simp
              repeat (first
                | (show _ ∧ _; exact ⟨rfl, rfl, rfl⟩)
                | refine wkT ?_
                | refine Bs.all ?_
                | (show RetOk _ _ _ _ _ _; refine RetOk.of (T := T) (RL.row rfl rfl LdN.hasBlk (by rfl) (RL.tmp rfl (RL.tmp rfl RL.nil))) ?_)
                | (show QOk _ _ _ _ _ _ _; refine QOk.build rfl rfl Nf.auto ?_)
                | (show OpOk _ _ _ _ _ _ _; first | refine opB (fun b => ?_) | refine opA (fun a' c' hc1 hc2 => ?_))
                | (show GJ _ _ _ _ _ _ _; first | refine GJ.t (by decide) ?_ | refine GJ.f (by decide) ?_ | refine GJ.ft (by decide) ?_ | refine GJ.ff (by decide) ?_)
                | (show Br _ _ _; first | refine Br.t (by decide) ?_ | refine Br.f (by decide) ?_)
                | (show GJ _ _ _ _ _ _ _; first | (apply GJ.and; exact rfl; intro hg) | (apply GJ.or; exact rfl; intro hg)))
              refine while_ok nl_ok (by omega) hl ?_
              generalize ((tx.drop (a + i)).takeWhile nlB).length = w at *
              rw [show a + i + w = a + (i + w) by omega]
              repeat (first
                | (show _ ∧ _; exact ⟨rfl, rfl, rfl⟩)
                | refine wkT ?_
                | refine Bs.all ?_
                | (show RetOk _ _ _ _ _ _; refine RetOk.of (T := T) (RL.row rfl rfl LdN.hasBlk (by rfl) (RL.tmp rfl (RL.tmp rfl RL.nil))) ?_)
                | (show QOk _ _ _ _ _ _ _; refine QOk.build rfl rfl Nf.auto ?_)
                | (show OpOk _ _ _ _ _ _ _; first | refine opB (fun b => ?_) | refine opA (fun a' c' hc1 hc2 => ?_))
                | (show GJ _ _ _ _ _ _ _; first | refine GJ.t (by decide) ?_ | refine GJ.f (by decide) ?_ | refine GJ.ft (by decide) ?_ | refine GJ.ff (by decide) ?_)
                | (show Br _ _ _; first | refine Br.t (by decide) ?_ | refine Br.f (by decide) ?_)
                | (show GJ _ _ _ _ _ _ _; first | (apply GJ.and; exact rfl; intro hg) | (apply GJ.or; exact rfl; intro hg)))
              refine Wk.id ⟨i + w, ⟨rfl, ?_⟩, ?_, Sub.auto, Sup.auto⟩
              all_goals try dsimp only
              · refine ⟨by omega, ?_⟩
                rw [List.drop_drop] at i2
                rw [show a + (i + w) = a + i + w by omega]
                omega
              · omega
            · rw [if_neg h3, if_neg (by simp; omega), if_neg h5] at i2
              have e : gapD false (tx.drop a) = i := by omega
              rw [e] at hk
              repeat (first
                | (show _ ∧ _; exact ⟨rfl, rfl, rfl⟩)
                | refine wkT ?_
                | refine Bs.all ?_
                | (show RetOk _ _ _ _ _ _; refine RetOk.of (T := T) (RL.row rfl rfl LdN.hasBlk (by rfl) (RL.tmp rfl (RL.tmp rfl RL.nil))) ?_)
                | (show QOk _ _ _ _ _ _ _; refine QOk.build rfl rfl Nf.auto ?_)
                | (show OpOk _ _ _ _ _ _ _; first | refine opB (fun b => ?_) | refine opA (fun a' c' hc1 hc2 => ?_))
                | (show GJ _ _ _ _ _ _ _; first | refine GJ.t (by decide) ?_ | refine GJ.f (by decide) ?_ | refine GJ.ft (by decide) ?_ | refine GJ.ff (by decide) ?_)
                | (show Br _ _ _; first | refine Br.t (by decide) ?_ | refine Br.f (by decide) ?_)
                | (show GJ _ _ _ _ _ _ _; first | (apply GJ.and; exact rfl; intro hg) | (apply GJ.or; exact rfl; intro hg)))
              exact Wk.outS Sup.auto (.refl _) hk
  · have : a + i = tx.length := by omega
    have h0 : tx.drop (a + i) = [] := List.drop_eq_nil_of_le (by omega)
    rw [h0] at i2
    have e : gapD false (tx.drop a) = i := by rw [← i2]; simp [gapD]
    rw [e] at hk
    repeat (first
      | (show _ ∧ _; exact ⟨rfl, rfl, rfl⟩)
      | refine wkT ?_
      | refine Bs.all ?_
      | (show RetOk _ _ _ _ _ _; refine RetOk.of (T := T) (RL.row rfl rfl LdN.hasBlk (by rfl) (RL.tmp rfl (RL.tmp rfl RL.nil))) ?_)
      | (show QOk _ _ _ _ _ _ _; refine QOk.build rfl rfl Nf.auto ?_)
      | (show OpOk _ _ _ _ _ _ _; first | refine opB (fun b => ?_) | refine opA (fun a' c' hc1 hc2 => ?_))
      | (show GJ _ _ _ _ _ _ _; first | refine GJ.t (by decide) ?_ | refine GJ.f (by decide) ?_ | refine GJ.ft (by decide) ?_ | refine GJ.ff (by decide) ?_)
      | (show Br _ _ _; first | refine Br.t (by decide) ?_ | refine Br.f (by decide) ?_)
      | (show GJ _ _ _ _ _ _ _; first | (apply GJ.and; exact rfl; intro hg) | (apply GJ.or; exact rfl; intro hg)))
    exact Wk.outS Sup.auto (.refl _) hk
end
end Go.Proofs.YtniofdklhlbphaaDoor
