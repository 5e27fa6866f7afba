/- Contracts of the reference of lex: Letter, Digit, Gap. -/
import Derived.Test.YtocliedpgdfkoaaDoorLxF
namespace Go.Proofs.YtocliedpgdfkoaaDoor
open Go Go.E
set_option linter.unusedVariables false
set_option linter.unusedSimpArgs false
set_option maxRecDepth 10000
theorem rletter_ok : ByteFn 63 letB := fun u ro own K hk => by
  have hu := u.toNat_lt
  have hl : letB u = ((decide (97 ≤ u.toNat) && decide (u.toNat ≤ 122)) || (decide (65 ≤ u.toNat) && decide (u.toNat ≤ 90)) || decide (u.toNat = 95)) := rfl
  generalize letB u = q at hl hk
  refine CallOk.intro (args := [_]) (rs := [_]) T_ok Tryd.func63 Tryd.call63 rfl rfl (by kernel_rfl) rfl rfl ?_
  by_cases h1 : 97 ≤ u.toNat <;> by_cases h2 : u.toNat ≤ 122 <;> by_cases h3 : 65 ≤ u.toNat <;> by_cases h4 : u.toNat ≤ 90
  all_goals
    try omega
  all_goals
    repeat (first
      | (show _ ∧ _; exact ⟨rfl, rfl, rfl⟩)
      | refine wkT ?_
      | (show OpOk _ _ _ _ _ _ _; first | refine opB (fun b => ?_) | refine opA (fun a' c' hc1 hc2 => ?_))
      | (show GJ _ _ _ _ _ _ _; first | (apply GJ.and; exact rfl; intro hg) | (apply GJ.or; exact rfl; intro hg)))
    refine Wk.outV Sup.auto hk (congrArg Value.bool ?_)
    rw [hl]
    simp [h1, h2, h3, h4]
    try omega
theorem rdigit_ok : ByteFn 64 digB := fun u ro own K hk => by
  have hu := u.toNat_lt
  have hl : digB u = (decide (48 ≤ u.toNat) && decide (u.toNat ≤ 57)) := rfl
  generalize digB u = q at hl hk
  refine CallOk.intro (args := [_]) (rs := [_]) T_ok Tryd.func64 Tryd.call64 rfl rfl (by kernel_rfl) rfl rfl ?_
  by_cases h1 : 48 ≤ u.toNat <;> by_cases h2 : u.toNat ≤ 57
  all_goals
    try omega
  all_goals
    repeat (first
      | (show _ ∧ _; exact ⟨rfl, rfl, rfl⟩)
      | refine wkT ?_
      | (show OpOk _ _ _ _ _ _ _; first | refine opB (fun b => ?_) | refine opA (fun a' c' hc1 hc2 => ?_))
      | (show GJ _ _ _ _ _ _ _; first | (apply GJ.and; exact rfl; intro hg) | (apply GJ.or; exact rfl; intro hg)))
    refine Wk.outV Sup.auto hk (congrArg Value.bool ?_)
    rw [hl]
    simp [h1, h2]
    try omega
theorem get_at {tx : List UInt8} {i : Nat} (h : i < tx.length) : ∃ u, tx[i]? = some u ∧ tx[((i : Nat) : Int).toNat]! = u ∧ tx.drop i = u :: tx.drop (i + 1) := by
  obtain ⟨u, hu⟩ : ∃ u, tx[i]? = some u := ⟨_, List.getElem?_eq_getElem h⟩
  refine ⟨u, hu, by rw [Int.toNat_natCast, List.getElem!_eq_getElem?_getD, hu]; rfl, ?_⟩
  rw [List.drop_eq_getElem_cons h]
  congr 1
  rw [List.getElem?_eq_getElem h] at hu
  exact Option.some.inj hu
section
variable {ro : Ro} {own r : Chs} {K : Value → Ro → Chs → Prop} {g : Chunk → Chs}
set_option maxHeartbeats 2000000 in
theorem rgap_ok {l : List UInt8} (hl : l.length ≤ 100000) (hk : K (.int .i64 ((gapD false l : Nat) : Int)) ro own) : CallOk Tryd.prog 33 #[str l] ro own K := by
  refine CallOk.intro (args := [_]) (rs := [_]) T_ok Tryd.func33 Tryd.call33 rfl rfl (by kernel_rfl) rfl rfl ?_
  repeat (first
    | (show _ ∧ _; exact ⟨rfl, rfl, rfl⟩)
    | refine wkT ?_
    | (show OpOk _ _ _ _ _ _ _; first | refine opB (fun b => ?_) | refine opA (fun a' c' hc1 hc2 => ?_))
    | (show GJ _ _ _ _ _ _ _; first | (apply GJ.and; exact rfl; intro hg) | (apply GJ.or; exact rfl; intro hg)))
  refine LoopOk.at (ι := Nat × Bool) Keep.auto (fun (i, n) => [(3, .int .i64 (i : Int)), (4, .bool n)]) (fun (i, n) => own) (fun (i, n) => i ≤ l.length ∧ i + gapD n (l.drop i) = gapD false l) (fun (i, n) => l.length - i) (0, false) ?_ Sub.auto Sup.auto ?_
  · exact ⟨by omega, by simp⟩
  rintro ⟨i, n⟩ ⟨i1, i2⟩
  dsimp only [List.cons_append, List.nil_append] at i1 i2 ⊢
  by_cases hb : i < l.length
  · obtain ⟨u, hu, hu2, hd⟩ := get_at hb
    have hun := u.toNat_lt
    rw [hd, gapD] at i2
    repeat (first
      | (show _ ∧ _; exact ⟨rfl, rfl, rfl⟩)
      | refine wkT ?_
      | refine Bs.all ?_
      | (show QOk _ _ _ _ _ _ _; refine QOk.build rfl rfl Nf.auto ?_)
      | (show OpOk _ _ _ _ _ _ _; first | refine opB (fun b => ?_) | refine opA (fun a' c' hc1 hc2 => ?_))
      | (show GJ _ _ _ _ _ _ _; first | refine GJ.t (by decide) ?_ | refine GJ.f (by decide) ?_ | refine GJ.ft (by decide) ?_ | refine GJ.ff (by decide) ?_)
      | (show Br _ _ _; first | refine Br.t (by decide) ?_ | refine Br.f (by decide) ?_)
      | (show GJ _ _ _ _ _ _ _; first | (apply GJ.and; exact rfl; intro hg) | (apply GJ.or; exact rfl; intro hg)))
    refine SeqOk.pass ?_
    repeat (first
      | (show _ ∧ _; exact ⟨rfl, rfl, rfl⟩)
      | refine wkT ?_
      | refine Bs.all ?_
      | (show QOk _ _ _ _ _ _ _; refine QOk.build rfl rfl Nf.auto ?_)
      | (show OpOk _ _ _ _ _ _ _; first | refine opB (fun b => ?_) | refine opA (fun a' c' hc1 hc2 => ?_))
      | (show GJ _ _ _ _ _ _ _; first | refine GJ.t (by decide) ?_ | refine GJ.f (by decide) ?_ | refine GJ.ft (by decide) ?_ | refine GJ.ff (by decide) ?_)
      | (show Br _ _ _; first | refine Br.t (by decide) ?_ | refine Br.f (by decide) ?_)
      | (show GJ _ _ _ _ _ _ _; first | (apply GJ.and; exact rfl; intro hg) | (apply GJ.or; exact rfl; intro hg)))
    try rw [hu2]
    by_cases h1 : u.toNat = 10
    · rw [if_pos h1] at i2
      repeat (first
        | (show _ ∧ _; exact ⟨rfl, rfl, rfl⟩)
        | refine wkT ?_
        | refine Bs.all ?_
        | (show QOk _ _ _ _ _ _ _; refine QOk.build rfl rfl Nf.auto ?_)
        | (show OpOk _ _ _ _ _ _ _; first | refine opB (fun b => ?_) | refine opA (fun a' c' hc1 hc2 => ?_))
        | (show GJ _ _ _ _ _ _ _; first | refine GJ.t (by decide) ?_ | refine GJ.f (by decide) ?_ | refine GJ.ft (by decide) ?_ | refine GJ.ff (by decide) ?_)
        | (show Br _ _ _; first | refine Br.t (by decide) ?_ | refine Br.f (by decide) ?_)
        | (show GJ _ _ _ _ _ _ _; first | (apply GJ.and; exact rfl; intro hg) | (apply GJ.or; exact rfl; intro hg)))
      refine Wk.id ⟨(i + 1, false), ⟨rfl, ?_⟩, ?_, Sub.auto, Sup.auto⟩
      all_goals try dsimp only
      · exact ⟨by omega, by omega⟩
      · omega
    · rw [if_neg h1] at i2
      cases n with
      | true =>
        rw [if_pos (Or.inl rfl)] at i2
        repeat (first
          | (show _ ∧ _; exact ⟨rfl, rfl, rfl⟩)
          | refine wkT ?_
          | refine Bs.all ?_
          | (show QOk _ _ _ _ _ _ _; refine QOk.build rfl rfl Nf.auto ?_)
          | (show OpOk _ _ _ _ _ _ _; first | refine opB (fun b => ?_) | refine opA (fun a' c' hc1 hc2 => ?_))
          | (show GJ _ _ _ _ _ _ _; first | refine GJ.t (by decide) ?_ | refine GJ.f (by decide) ?_ | refine GJ.ft (by decide) ?_ | refine GJ.ff (by decide) ?_)
          | (show Br _ _ _; first | refine Br.t (by decide) ?_ | refine Br.f (by decide) ?_)
          | (show GJ _ _ _ _ _ _ _; first | (apply GJ.and; exact rfl; intro hg) | (apply GJ.or; exact rfl; intro hg)))
        refine Wk.id ⟨(i + 1, true), ⟨rfl, ?_⟩, ?_, Sub.auto, Sup.auto⟩
        all_goals try dsimp only
        · exact ⟨by omega, by omega⟩
        · omega
      | false =>
        repeat (first
          | (show _ ∧ _; exact ⟨rfl, rfl, rfl⟩)
          | refine wkT ?_
          | refine Bs.all ?_
          | (show QOk _ _ _ _ _ _ _; refine QOk.build rfl rfl Nf.auto ?_)
          | (show OpOk _ _ _ _ _ _ _; first | refine opB (fun b => ?_) | refine opA (fun a' c' hc1 hc2 => ?_))
          | (show GJ _ _ _ _ _ _ _; first | refine GJ.t (by decide) ?_ | refine GJ.f (by decide) ?_ | refine GJ.ft (by decide) ?_ | refine GJ.ff (by decide) ?_)
          | (show Br _ _ _; first | refine Br.t (by decide) ?_ | refine Br.f (by decide) ?_)
          | (show GJ _ _ _ _ _ _ _; first | (apply GJ.and; exact rfl; intro hg) | (apply GJ.or; exact rfl; intro hg)))
        try rw [hu2]
        by_cases h2 : u.toNat = 32
        · rw [if_pos (.inr (.inl h2))] at i2
          repeat (first
            | (show _ ∧ _; exact ⟨rfl, rfl, rfl⟩)
            | refine wkT ?_
            | refine Bs.all ?_
            | (show QOk _ _ _ _ _ _ _; refine QOk.build rfl rfl Nf.auto ?_)
            | (show OpOk _ _ _ _ _ _ _; first | refine opB (fun b => ?_) | refine opA (fun a' c' hc1 hc2 => ?_))
            | (show GJ _ _ _ _ _ _ _; first | refine GJ.t (by decide) ?_ | refine GJ.f (by decide) ?_ | refine GJ.ft (by decide) ?_ | refine GJ.ff (by decide) ?_)
            | (show Br _ _ _; first | refine Br.t (by decide) ?_ | refine Br.f (by decide) ?_)
            | (show GJ _ _ _ _ _ _ _; first | (apply GJ.and; exact rfl; intro hg) | (apply GJ.or; exact rfl; intro hg)))
          refine Wk.id ⟨(i + 1, false), ⟨rfl, ?_⟩, ?_, Sub.auto, Sup.auto⟩
          all_goals try dsimp only
          · exact ⟨by omega, by omega⟩
          · omega
        · by_cases h3 : u.toNat = 9
          · rw [if_pos (.inr (.inr (.inl h3)))] at i2
            repeat (first
              | (show _ ∧ _; exact ⟨rfl, rfl, rfl⟩)
              | refine wkT ?_
              | refine Bs.all ?_
              | (show QOk _ _ _ _ _ _ _; refine QOk.build rfl rfl Nf.auto ?_)
              | (show OpOk _ _ _ _ _ _ _; first | refine opB (fun b => ?_) | refine opA (fun a' c' hc1 hc2 => ?_))
              | (show GJ _ _ _ _ _ _ _; first | refine GJ.t (by decide) ?_ | refine GJ.f (by decide) ?_ | refine GJ.ft (by decide) ?_ | refine GJ.ff (by decide) ?_)
              | (show Br _ _ _; first | refine Br.t (by decide) ?_ | refine Br.f (by decide) ?_)
              | (show GJ _ _ _ _ _ _ _; first | (apply GJ.and; exact rfl; intro hg) | (apply GJ.or; exact rfl; intro hg)))
            refine Wk.id ⟨(i + 1, false), ⟨rfl, ?_⟩, ?_, Sub.auto, Sup.auto⟩
            all_goals try dsimp only
            · exact ⟨by omega, by omega⟩
            · omega
          · by_cases h4 : u.toNat = 13
            · rw [if_pos (.inr (.inr (.inr h4)))] at i2
              repeat (first
                | (show _ ∧ _; exact ⟨rfl, rfl, rfl⟩)
                | refine wkT ?_
                | refine Bs.all ?_
                | (show QOk _ _ _ _ _ _ _; refine QOk.build rfl rfl Nf.auto ?_)
                | (show OpOk _ _ _ _ _ _ _; first | refine opB (fun b => ?_) | refine opA (fun a' c' hc1 hc2 => ?_))
                | (show GJ _ _ _ _ _ _ _; first | refine GJ.t (by decide) ?_ | refine GJ.f (by decide) ?_ | refine GJ.ft (by decide) ?_ | refine GJ.ff (by decide) ?_)
                | (show Br _ _ _; first | refine Br.t (by decide) ?_ | refine Br.f (by decide) ?_)
                | (show GJ _ _ _ _ _ _ _; first | (apply GJ.and; exact rfl; intro hg) | (apply GJ.or; exact rfl; intro hg)))
              refine Wk.id ⟨(i + 1, false), ⟨rfl, ?_⟩, ?_, Sub.auto, Sup.auto⟩
              all_goals try dsimp only
              · exact ⟨by omega, by omega⟩
              · omega
            · rw [if_neg (by simp; omega)] at i2
              by_cases h5 : u.toNat = 35
              · rw [if_pos h5] at i2
                repeat (first
                  | (show _ ∧ _; exact ⟨rfl, rfl, rfl⟩)
                  | refine wkT ?_
                  | refine Bs.all ?_
                  | (show QOk _ _ _ _ _ _ _; refine QOk.build rfl rfl Nf.auto ?_)
                  | (show OpOk _ _ _ _ _ _ _; first | refine opB (fun b => ?_) | refine opA (fun a' c' hc1 hc2 => ?_))
                  | (show GJ _ _ _ _ _ _ _; first | refine GJ.t (by decide) ?_ | refine GJ.f (by decide) ?_ | refine GJ.ft (by decide) ?_ | refine GJ.ff (by decide) ?_)
                  | (show Br _ _ _; first | refine Br.t (by decide) ?_ | refine Br.f (by decide) ?_)
                  | (show GJ _ _ _ _ _ _ _; first | (apply GJ.and; exact rfl; intro hg) | (apply GJ.or; exact rfl; intro hg)))
                try rw [hu2]
                repeat (first
                  | (show _ ∧ _; exact ⟨rfl, rfl, rfl⟩)
                  | refine wkT ?_
                  | refine Bs.all ?_
                  | (show QOk _ _ _ _ _ _ _; refine QOk.build rfl rfl Nf.auto ?_)
                  | (show OpOk _ _ _ _ _ _ _; first | refine opB (fun b => ?_) | refine opA (fun a' c' hc1 hc2 => ?_))
                  | (show GJ _ _ _ _ _ _ _; first | refine GJ.t (by decide) ?_ | refine GJ.f (by decide) ?_ | refine GJ.ft (by decide) ?_ | refine GJ.ff (by decide) ?_)
                  | (show Br _ _ _; first | refine Br.t (by decide) ?_ | refine Br.f (by decide) ?_)
                  | (show GJ _ _ _ _ _ _ _; first | (apply GJ.and; exact rfl; intro hg) | (apply GJ.or; exact rfl; intro hg)))
                refine Wk.id ⟨(i + 1, true), ⟨rfl, ?_⟩, ?_, Sub.auto, Sup.auto⟩
                all_goals try dsimp only
                · exact ⟨by omega, by omega⟩
                · omega
              · rw [if_neg h5] at i2
                have e : gapD false l = i := by omega
                rw [e] at hk
                repeat (first
                  | (show _ ∧ _; exact ⟨rfl, rfl, rfl⟩)
                  | refine wkT ?_
                  | refine Bs.all ?_
                  | (show QOk _ _ _ _ _ _ _; refine QOk.build rfl rfl Nf.auto ?_)
                  | (show OpOk _ _ _ _ _ _ _; first | refine opB (fun b => ?_) | refine opA (fun a' c' hc1 hc2 => ?_))
                  | (show GJ _ _ _ _ _ _ _; first | refine GJ.t (by decide) ?_ | refine GJ.f (by decide) ?_ | refine GJ.ft (by decide) ?_ | refine GJ.ff (by decide) ?_)
                  | (show Br _ _ _; first | refine Br.t (by decide) ?_ | refine Br.f (by decide) ?_)
                  | (show GJ _ _ _ _ _ _ _; first | (apply GJ.and; exact rfl; intro hg) | (apply GJ.or; exact rfl; intro hg)))
                try rw [hu2]
                repeat (first
                  | (show _ ∧ _; exact ⟨rfl, rfl, rfl⟩)
                  | refine wkT ?_
                  | refine Bs.all ?_
                  | (show QOk _ _ _ _ _ _ _; refine QOk.build rfl rfl Nf.auto ?_)
                  | (show OpOk _ _ _ _ _ _ _; first | refine opB (fun b => ?_) | refine opA (fun a' c' hc1 hc2 => ?_))
                  | (show GJ _ _ _ _ _ _ _; first | refine GJ.t (by decide) ?_ | refine GJ.f (by decide) ?_ | refine GJ.ft (by decide) ?_ | refine GJ.ff (by decide) ?_)
                  | (show Br _ _ _; first | refine Br.t (by decide) ?_ | refine Br.f (by decide) ?_)
                  | (show GJ _ _ _ _ _ _ _; first | (apply GJ.and; exact rfl; intro hg) | (apply GJ.or; exact rfl; intro hg)))
                exact Wk.outS Sup.auto (.refl _) hk
  · have h0 : l.drop i = [] := List.drop_eq_nil_of_le (by omega)
    rw [h0] at i2
    have e : gapD false l = i := by rw [← i2]; cases n <;> simp [gapD]
    rw [e] at hk
    repeat (first
      | (show _ ∧ _; exact ⟨rfl, rfl, rfl⟩)
      | refine wkT ?_
      | refine Bs.all ?_
      | (show QOk _ _ _ _ _ _ _; refine QOk.build rfl rfl Nf.auto ?_)
      | (show OpOk _ _ _ _ _ _ _; first | refine opB (fun b => ?_) | refine opA (fun a' c' hc1 hc2 => ?_))
      | (show GJ _ _ _ _ _ _ _; first | refine GJ.t (by decide) ?_ | refine GJ.f (by decide) ?_ | refine GJ.ft (by decide) ?_ | refine GJ.ff (by decide) ?_)
      | (show Br _ _ _; first | refine Br.t (by decide) ?_ | refine Br.f (by decide) ?_)
      | (show GJ _ _ _ _ _ _ _; first | (apply GJ.and; exact rfl; intro hg) | (apply GJ.or; exact rfl; intro hg)))
    exact Wk.outS Sup.auto (.refl _) hk
end
end Go.Proofs.YtocliedpgdfkoaaDoor
