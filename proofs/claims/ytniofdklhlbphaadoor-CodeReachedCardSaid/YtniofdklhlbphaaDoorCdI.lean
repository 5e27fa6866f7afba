/- The law CodeReached: its walk. -/
import Derived.Test.YtniofdklhlbphaaDoorCdH
import Derived.Test.YtniofdklhlbphaaDoorEn6
namespace Go.Proofs.YtniofdklhlbphaaDoor
open Go Go.E
set_option linter.unusedVariables false
set_option linter.unusedSimpArgs false
set_option maxRecDepth 10000
theorem want_eq {n : Nat} {w o : List Bool} (hw : w.length = n) (ho : o.length = n) (h : ∀ i : Nat, w[i]? = some true ↔ o[i]? = some true) : w = o := by
  apply List.ext_getElem?
  intro i
  by_cases hi : i < n
  · have h1 := h i
    rw [List.getElem?_eq_getElem (by omega), List.getElem?_eq_getElem (by omega)] at h1 ⊢
    congr 1
    cases h2 : w[i] <;> cases h3 : o[i] <;> simp [h2, h3] at h1 ⊢
  · rw [List.getElem?_eq_none (by omega), List.getElem?_eq_none (by omega)]
theorem ways_in {p : ProgD} {s : StepD} (h : waysB p s = true) : ∀ v ∈ s.ways, 0 ≤ v.to ∧ v.to < (p.steps.length : Int) := by
  intro v hv
  simp [waysB, toB] at h
  exact h.1 v hv
/-- What a step marks by itself: where it is aimed. -/
def MarkA (s : StepD) (z : Nat) : Prop := ((s.kind = 10 ∨ s.kind = 11 ∨ s.kind = 12 ∨ s.kind = 15) ∧ s.a = (z : Int)) ∨ (s.kind = 13 ∧ s.b = (z : Int))
/-- The same, and what its first ways mark. -/
def MarkB (s : StepD) (n z : Nat) : Prop := MarkA s z ∨ ((s.kind = 13 ∨ s.kind = 14) ∧ ∃ v ∈ s.ways.take n, v.to = (z : Int))
def NextK (s : StepD) : Prop := ¬ (s.kind = 11 ∨ s.kind = 16 ∨ s.kind = 20 ∨ s.kind = 13 ∨ s.kind = 14)
theorem follow_mark {s : StepD} {i k : Nat} (h : (k : Int) ∈ followD s i) : MarkB s s.ways.length k ∨ (NextK s ∧ k = i + 1) := by
  unfold followD at h
  unfold MarkB MarkA NextK
  rw [List.take_length]
  split at h
  · simp at h; exact .inl (.inl (.inl ⟨by omega, by omega⟩))
  split at h
  · simp at h
  split at h
  · simp at h
    rcases h with h | h
    · exact .inl (.inl (.inl ⟨by omega, by omega⟩))
    · exact .inr ⟨by omega, by omega⟩
  split at h
  · rename_i h1 h2 h3 h4
    rcases List.mem_append.1 h with h | h
    · obtain ⟨v, hv, e⟩ := List.mem_map.1 h
      exact .inl (.inr ⟨h4, v, hv, e⟩)
    · split at h
      · rename_i h5; simp at h; exact .inl (.inl (.inr ⟨h5.1, by omega⟩))
      · simp at h
  · simp at h
    exact .inr ⟨by omega, by omega⟩
theorem mark_follow {s : StepD} {i k n : Nat} (h : MarkB s n k ∨ (NextK s ∧ k = i + 1)) : (k : Int) ∈ followD s i := by
  unfold followD
  unfold MarkB MarkA NextK at h
  rcases h with ((⟨h1, h2⟩ | ⟨h1, h2⟩) | ⟨h1, v, hv, h2⟩) | ⟨h1, h2⟩
  · by_cases e : s.kind = 11
    · rw [if_pos e, h2]; simp
    · rw [if_neg e, if_neg (by omega), if_pos (by omega), h2]; simp
  · rw [if_neg (by omega), if_neg (by omega), if_neg (by omega), if_pos (.inl h1), if_pos ⟨h1, by omega⟩, h2]; simp
  · rw [if_neg (by omega), if_neg (by omega), if_neg (by omega), if_pos h1]
    exact List.mem_append.2 (.inl (List.mem_map.2 ⟨v, List.mem_of_mem_take hv, h2⟩))
  · by_cases e : s.kind = 10 ∨ s.kind = 12 ∨ s.kind = 15
    · rw [if_neg (by omega), if_neg (by omega), if_pos e, h2]; simp
    · rw [if_neg (by omega), if_neg (by omega), if_neg e, if_neg (by omega), h2]; simp
theorem kind_name {k : Int} (h : 1 ≤ k ∧ k ≤ 20) (m : Nat) (hm : m < 20) : kindD k = kindsB[m]! ↔ k = (m : Int) + 1 := by
  have hall : ∀ i, i < 20 → ∀ m, m < 20 → (kindD ((i : Nat) + 1 : Int) = kindsB[m]! ↔ i = m) := by decide +kernel
  obtain ⟨i, rfl⟩ : ∃ i : Nat, k = (i : Int) + 1 := ⟨(k - 1).toNat, by omega⟩
  rw [hall i (by omega) m hm]; omega
section
variable {ro : Ro} {own r : Chs} {K : Value → Ro → Chs → Prop} {g : Chunk → Chs}
set_option maxHeartbeats 8000000 in
theorem creached_law {p : ProgD} {a : ProgA} (hp : ProgOk ro p a) (hk : K (.bool true) ro own) : CallOk Tryd.prog 5 #[.agg (progV p a).toArray] ro own K := by
  refine CallOk.back ?_
  refine CallOk.intro (args := [_]) (rs := [_]) T_ok Tryd.func5 Tryd.call5 rfl rfl (by kernel_rfl) rfl rfl ?_
  repeat (first
    | refine SeqOk.pass ?_
    | (show _ ∧ _; exact ⟨rfl, rfl, rfl⟩)
    | refine wkT ?_
    | refine Bs.all ?_
    | (show RetOk _ _ _ _ _ _; refine RetOk.of (T := T) (RL.row rfl rfl LdN.hasBlk (by rfl) (RL.tmp rfl (RL.tmp rfl RL.nil))) ?_)
    | (show QOk _ _ _ _ _ _ _; refine QOk.build rfl rfl Nf.auto ?_)
    | (show OpOk _ _ _ _ _ _ _; first | refine opB (fun b => ?_) | refine opA (fun a' c' hc1 hc2 => ?_))
    | (show GJ _ _ _ _ _ _ _; first | refine GJ.t (by decide) ?_ | refine GJ.f (by decide) ?_ | refine GJ.ft (by decide) ?_ | refine GJ.ff (by decide) ?_)
    | (show Br _ _ _; first | refine Br.t (by decide) ?_ | refine Br.f (by decide) ?_)
    | (show GJ _ _ _ _ _ _ _; first | (apply GJ.and; exact rfl; intro hg) | (apply GJ.or; exact rfl; intro hg)))
  refine builds_ok (fun ro1 hl1 => ?_)
  repeat (first
    | refine SeqOk.pass ?_
    | (show _ ∧ _; exact ⟨rfl, rfl, rfl⟩)
    | refine wkT ?_
    | refine Bs.all ?_
    | (show RetOk _ _ _ _ _ _; refine RetOk.of (T := T) (RL.row rfl rfl LdN.hasBlk (by rfl) (RL.tmp rfl (RL.tmp rfl RL.nil))) ?_)
    | (show QOk _ _ _ _ _ _ _; refine QOk.build rfl rfl Nf.auto ?_)
    | (show OpOk _ _ _ _ _ _ _; first | refine opB (fun b => ?_) | refine opA (fun a' c' hc1 hc2 => ?_))
    | (show GJ _ _ _ _ _ _ _; first | refine GJ.t (by decide) ?_ | refine GJ.f (by decide) ?_ | refine GJ.ft (by decide) ?_ | refine GJ.ff (by decide) ?_)
    | (show Br _ _ _; first | refine Br.t (by decide) ?_ | refine Br.f (by decide) ?_)
    | (show GJ _ _ _ _ _ _ _; first | (apply GJ.and; exact rfl; intro hg) | (apply GJ.or; exact rfl; intro hg)))
  refine lsmall_ok (hp.le hl1) ?_
  cases hs : smallB p with
  | false =>
    repeat (first
      | refine SeqOk.pass ?_
      | (show _ ∧ _; exact ⟨rfl, rfl, rfl⟩)
      | refine wkT ?_
      | refine Bs.all ?_
      | (show RetOk _ _ _ _ _ _; refine RetOk.of (T := T) (RL.row rfl rfl LdN.hasBlk (by rfl) (RL.tmp rfl (RL.tmp rfl RL.nil))) ?_)
      | (show QOk _ _ _ _ _ _ _; refine QOk.build rfl rfl Nf.auto ?_)
      | (show OpOk _ _ _ _ _ _ _; first | refine opB (fun b => ?_) | refine opA (fun a' c' hc1 hc2 => ?_))
      | (show GJ _ _ _ _ _ _ _; first | refine GJ.t (by decide) ?_ | refine GJ.f (by decide) ?_ | refine GJ.ft (by decide) ?_ | refine GJ.ff (by decide) ?_)
      | (show Br _ _ _; first | refine Br.t (by decide) ?_ | refine Br.f (by decide) ?_)
      | (show GJ _ _ _ _ _ _ _; first | (apply GJ.and; exact rfl; intro hg) | (apply GJ.or; exact rfl; intro hg)))
    exact Wk.back1 Sup.auto (.refl _) hk
  | true =>
    have hsm : (∀ s ∈ p.steps, s.ways.length ≤ 300) ∧ p.steps.length ≤ 200 := by simpa [smallB] using hs
    have hn200 := hsm.2
    obtain ⟨b1, hb1⟩ : ∃ z : Nat, z = b := ⟨_, rfl⟩
    subst hb1
    repeat (first
      | refine SeqOk.pass ?_
      | (show _ ∧ _; exact ⟨rfl, rfl, rfl⟩)
      | refine wkT ?_
      | refine Bs.all ?_
      | (show RetOk _ _ _ _ _ _; refine RetOk.of (T := T) (RL.row rfl rfl LdN.hasBlk (by rfl) (RL.tmp rfl (RL.tmp rfl RL.nil))) ?_)
      | (show QOk _ _ _ _ _ _ _; refine QOk.build rfl rfl Nf.auto ?_)
      | (show OpOk _ _ _ _ _ _ _; first | refine opB (fun b => ?_) | refine opA (fun a' c' hc1 hc2 => ?_))
      | (show GJ _ _ _ _ _ _ _; first | refine GJ.t (by decide) ?_ | refine GJ.f (by decide) ?_ | refine GJ.ft (by decide) ?_ | refine GJ.ff (by decide) ?_)
      | (show Br _ _ _; first | refine Br.t (by decide) ?_ | refine Br.f (by decide) ?_)
      | (show GJ _ _ _ _ _ _ _; first | (apply GJ.and; exact rfl; intro hg) | (apply GJ.or; exact rfl; intro hg)))
    refine reached_ok (hp.le hl1) (by omega) hsm.1 (fun ro2 ag cg o hl2 ho1 ho2 ho3 hro => ?_)
    have hp2 : ProgOk ro2 p a := (hp.le hl1).le hl2
    have hr := hp2.steps
    have hle := hr.le
    have hm := hr.max
    unfold maxLen at hm
    repeat (first
      | refine SeqOk.pass ?_
      | (show _ ∧ _; exact ⟨rfl, rfl, rfl⟩)
      | refine wkT ?_
      | refine Bs.all ?_
      | (show RetOk _ _ _ _ _ _; refine RetOk.of (T := T) (RL.row rfl rfl LdN.hasBlk (by rfl) (RL.tmp rfl (RL.tmp rfl RL.nil))) ?_)
      | (show QOk _ _ _ _ _ _ _; refine QOk.build rfl rfl Nf.auto ?_)
      | (show OpOk _ _ _ _ _ _ _; first | refine opB (fun b => ?_) | refine opA (fun a' c' hc1 hc2 => ?_))
      | (show GJ _ _ _ _ _ _ _; first | refine GJ.t (by decide) ?_ | refine GJ.f (by decide) ?_ | refine GJ.ft (by decide) ?_ | refine GJ.ff (by decide) ?_)
      | (show Br _ _ _; first | refine Br.t (by decide) ?_ | refine Br.f (by decide) ?_)
      | (show GJ _ _ _ _ _ _ _; first | (apply GJ.and; exact rfl; intro hg) | (apply GJ.or; exact rfl; intro hg)))
    obtain ⟨bW, hbW⟩ : ∃ z : Nat, z = b := ⟨_, rfl⟩
    subst hbW
    rw [Int.toNat_natCast]
    refine lwrong_ok hp2 ?_
    by_cases hc : ¬ checkF p = (0, 0)
    · have hne : (checkF p).1 ≠ 0 := fun h => hc (checkF_zero h)
      have hwo : List.replicate p.steps.length (Value.bool false) = boolsV o := by
        rw [← want_eq (w := List.replicate p.steps.length false) (by simp) ho1 (fun i => ⟨fun h => by simp [List.getElem?_replicate] at h, fun h => absurd h (ho3 hc i)⟩), boolsV, List.map_replicate]
      rw [hwo]
      repeat (first
        | refine SeqOk.pass ?_
        | (show _ ∧ _; exact ⟨rfl, rfl, rfl⟩)
        | refine wkT ?_
        | refine Bs.all ?_
        | (show QOk _ _ _ _ _ _ _; refine QOk.build rfl rfl Nf.auto ?_)
        | (show OpOk _ _ _ _ _ _ _; first | refine opB (fun b => ?_) | refine opA (fun a' c' hc1 hc2 => ?_))
        | (show GJ _ _ _ _ _ _ _; first | refine GJ.t omAuto ?_ | refine GJ.f omAuto ?_ | refine GJ.ft omAuto ?_ | refine GJ.ff omAuto ?_ | refine GJ.t (by decide) ?_ | refine GJ.f (by decide) ?_ | refine GJ.ft (by decide) ?_ | refine GJ.ff (by decide) ?_))
      refine LoopOk.at (ι := Nat) Keep.auto (fun y => [(119, .int .i64 (y : Int))]) (fun y => .sl (some ⟨bW, 0, none⟩) p.steps.length p.steps.length 4 1 (boolsV o) :: .blk b1 33 (progV p a) :: own) (fun y => y ≤ p.steps.length) (fun y => p.steps.length - y) 0 ?_ Sub.auto Sup.auto ?_
      · exact Nat.zero_le _
      rintro y y1
      dsimp only [List.cons_append, List.nil_append] at y1 ⊢
      have hol : (o).length = p.steps.length := ho1
      repeat (first
        | refine SeqOk.pass ?_
        | (show _ ∧ _; exact ⟨rfl, rfl, rfl⟩)
        | refine wkT ?_
        | refine Bs.all ?_
        | (show QOk _ _ _ _ _ _ _; refine QOk.build rfl rfl Nf.auto ?_)
        | (show OpOk _ _ _ _ _ _ _; first | refine opB (fun b => ?_) | refine opA (fun a' c' hc1 hc2 => ?_))
        | (show GJ _ _ _ _ _ _ _; first | refine GJ.t omAuto ?_ | refine GJ.f omAuto ?_ | refine GJ.ft omAuto ?_ | refine GJ.ff omAuto ?_ | refine GJ.t (by decide) ?_ | refine GJ.f (by decide) ?_ | refine GJ.ft (by decide) ?_ | refine GJ.ff (by decide) ?_))
      refine Br.cases (fun hgy => ?_) (fun hgy => ?_)
      · have hy : y < p.steps.length := by omega
        repeat (first
          | refine SeqOk.pass ?_
          | (show _ ∧ _; exact ⟨rfl, rfl, rfl⟩)
          | refine wkT ?_
          | refine Bs.all ?_
          | (show QOk _ _ _ _ _ _ _; refine QOk.build rfl rfl Nf.auto ?_)
          | (show OpOk _ _ _ _ _ _ _; first | refine opB (fun b => ?_) | refine opA (fun a' c' hc1 hc2 => ?_))
          | (show GJ _ _ _ _ _ _ _; first | refine GJ.t omAuto ?_ | refine GJ.f omAuto ?_ | refine GJ.ft omAuto ?_ | refine GJ.ff omAuto ?_ | refine GJ.t (by decide) ?_ | refine GJ.f (by decide) ?_ | refine GJ.ft (by decide) ?_ | refine GJ.ff (by decide) ?_))
        refine Br.cases (fun hx => absurd rfl hx) (fun hx => ?_)
        repeat (first
          | refine SeqOk.pass ?_
          | (show _ ∧ _; exact ⟨rfl, rfl, rfl⟩)
          | refine wkT ?_
          | refine Bs.all ?_
          | (show QOk _ _ _ _ _ _ _; refine QOk.build rfl rfl Nf.auto ?_)
          | (show OpOk _ _ _ _ _ _ _; first | refine opB (fun b => ?_) | refine opA (fun a' c' hc1 hc2 => ?_))
          | (show GJ _ _ _ _ _ _ _; first | refine GJ.t omAuto ?_ | refine GJ.f omAuto ?_ | refine GJ.ft omAuto ?_ | refine GJ.ff omAuto ?_ | refine GJ.t (by decide) ?_ | refine GJ.f (by decide) ?_ | refine GJ.ft (by decide) ?_ | refine GJ.ff (by decide) ?_))
        refine Wk.id ⟨y + 1, ⟨rfl, ?_⟩, ?_, Sub.auto, Sup.auto⟩
        all_goals try dsimp only
        · omega
        · omega
      · repeat (first
          | refine SeqOk.pass ?_
          | (show _ ∧ _; exact ⟨rfl, rfl, rfl⟩)
          | refine wkT ?_
          | refine Bs.all ?_
          | (show QOk _ _ _ _ _ _ _; refine QOk.build rfl rfl Nf.auto ?_)
          | (show OpOk _ _ _ _ _ _ _; first | refine opB (fun b => ?_) | refine opA (fun a' c' hc1 hc2 => ?_))
          | (show GJ _ _ _ _ _ _ _; first | refine GJ.t omAuto ?_ | refine GJ.f omAuto ?_ | refine GJ.ft omAuto ?_ | refine GJ.ff omAuto ?_ | refine GJ.t (by decide) ?_ | refine GJ.f (by decide) ?_ | refine GJ.ft (by decide) ?_ | refine GJ.ff (by decide) ?_))
        refine Wk.backB ?_ Sup.auto (.refl _) hk
        exact decide_eq_true rfl
    have hc := Decidable.of_not_not hc
    obtain ⟨hpos, hrt⟩ := checkF_right hc
    rw [hc]
    have hini : (List.replicate p.steps.length (Value.bool false)).set 0 (.bool true) = boolsV ((List.replicate p.steps.length false).set 0 true) := by
      rw [← boolsV_set, boolsV, List.map_replicate]
    repeat (first
      | refine SeqOk.pass ?_
      | (show _ ∧ _; exact ⟨rfl, rfl, rfl⟩)
      | refine wkT ?_
      | refine Bs.all ?_
      | (show QOk _ _ _ _ _ _ _; refine QOk.build rfl rfl Nf.auto ?_)
      | (show OpOk _ _ _ _ _ _ _; first | refine opB (fun b => ?_) | refine opA (fun a' c' hc1 hc2 => ?_))
      | (show GJ _ _ _ _ _ _ _; first | refine GJ.t omAuto ?_ | refine GJ.f omAuto ?_ | refine GJ.ft omAuto ?_ | refine GJ.ff omAuto ?_ | refine GJ.t (by decide) ?_ | refine GJ.f (by decide) ?_ | refine GJ.ft (by decide) ?_ | refine GJ.ff (by decide) ?_))
    refine OpOk.storeSlAt' (k := 0) rfl rfl rfl rfl rfl (by rw [List.length_replicate]; exact hpos) ?_
    rw [hini]
    repeat (first
      | refine SeqOk.pass ?_
      | (show _ ∧ _; exact ⟨rfl, rfl, rfl⟩)
      | refine wkT ?_
      | refine Bs.all ?_
      | (show QOk _ _ _ _ _ _ _; refine QOk.build rfl rfl Nf.auto ?_)
      | (show OpOk _ _ _ _ _ _ _; first | refine opB (fun b => ?_) | refine opA (fun a' c' hc1 hc2 => ?_))
      | (show GJ _ _ _ _ _ _ _; first | refine GJ.t omAuto ?_ | refine GJ.f omAuto ?_ | refine GJ.ft omAuto ?_ | refine GJ.ff omAuto ?_ | refine GJ.t (by decide) ?_ | refine GJ.f (by decide) ?_ | refine GJ.ft (by decide) ?_ | refine GJ.ff (by decide) ?_))
    refine LoopOk.at (ι := Nat × List Bool) Keep.auto (fun (r, w) => [(31, .int .i64 (r : Int))]) (fun (r, w) => .sl (some ⟨bW, 0, none⟩) p.steps.length p.steps.length 4 1 (boolsV w) :: .blk b1 33 (progV p a) :: own) (fun (r, w) => r ≤ p.steps.length ∧ Round p r w) (fun (r, w) => p.steps.length - r) (0, (List.replicate p.steps.length false).set 0 true) ?_ Sub.auto Sup.auto ?_
    · exact ⟨Nat.zero_le _, Round.init hpos⟩
    rintro ⟨r, w⟩ ⟨i1, i2⟩
    dsimp only [List.cons_append, List.nil_append] at i1 i2 ⊢
    have hwl : (boolsV w).length = p.steps.length := by simp [boolsV, i2.sound.len]
    repeat (first
      | refine SeqOk.pass ?_
      | (show _ ∧ _; exact ⟨rfl, rfl, rfl⟩)
      | refine wkT ?_
      | refine Bs.all ?_
      | (show QOk _ _ _ _ _ _ _; refine QOk.build rfl rfl Nf.auto ?_)
      | (show OpOk _ _ _ _ _ _ _; first | refine opB (fun b => ?_) | refine opA (fun a' c' hc1 hc2 => ?_))
      | (show GJ _ _ _ _ _ _ _; first | refine GJ.t omAuto ?_ | refine GJ.f omAuto ?_ | refine GJ.ft omAuto ?_ | refine GJ.ff omAuto ?_ | refine GJ.t (by decide) ?_ | refine GJ.f (by decide) ?_ | refine GJ.ft (by decide) ?_ | refine GJ.ff (by decide) ?_))
    refine Br.cases (fun hg => ?_) (fun hg => ?_)
    · repeat (first
        | refine SeqOk.pass ?_
        | (show _ ∧ _; exact ⟨rfl, rfl, rfl⟩)
        | refine wkT ?_
        | refine Bs.all ?_
        | (show QOk _ _ _ _ _ _ _; refine QOk.build rfl rfl Nf.auto ?_)
        | (show OpOk _ _ _ _ _ _ _; first | refine opB (fun b => ?_) | refine opA (fun a' c' hc1 hc2 => ?_))
        | (show GJ _ _ _ _ _ _ _; first | refine GJ.t omAuto ?_ | refine GJ.f omAuto ?_ | refine GJ.ft omAuto ?_ | refine GJ.ff omAuto ?_ | refine GJ.t (by decide) ?_ | refine GJ.f (by decide) ?_ | refine GJ.ft (by decide) ?_ | refine GJ.ff (by decide) ?_))
      refine LoopOk.at (ι := Nat × List Bool) Keep.auto (fun (i, w) => [(36, .int .i64 (i : Int))]) (fun (i, w) => .sl (some ⟨bW, 0, none⟩) p.steps.length p.steps.length 4 1 (boolsV w) :: .blk b1 33 (progV p a) :: own) (fun (i, w) => i ≤ p.steps.length ∧ Sweep p r i w) (fun (i, w) => p.steps.length - i) (0, w) ?_ Sub.auto Sup.auto ?_
      · exact ⟨Nat.zero_le _, i2.sweep⟩
      rintro ⟨i, w⟩ ⟨j1, j2⟩
      dsimp only [List.cons_append, List.nil_append] at j1 j2 ⊢
      have hwl : (boolsV w).length = p.steps.length := by simp [boolsV, j2.sound.len]
      repeat (first
        | refine SeqOk.pass ?_
        | (show _ ∧ _; exact ⟨rfl, rfl, rfl⟩)
        | refine wkT ?_
        | refine Bs.all ?_
        | (show QOk _ _ _ _ _ _ _; refine QOk.build rfl rfl Nf.auto ?_)
        | (show OpOk _ _ _ _ _ _ _; first | refine opB (fun b => ?_) | refine opA (fun a' c' hc1 hc2 => ?_))
        | (show GJ _ _ _ _ _ _ _; first | refine GJ.t omAuto ?_ | refine GJ.f omAuto ?_ | refine GJ.ft omAuto ?_ | refine GJ.ff omAuto ?_ | refine GJ.t (by decide) ?_ | refine GJ.f (by decide) ?_ | refine GJ.ft (by decide) ?_ | refine GJ.ff (by decide) ?_))
      refine Br.cases (fun hg2 => ?_) (fun hg2 => ?_)
      · have hi : i < p.steps.length := by omega
        obtain ⟨s, hsi⟩ : ∃ s, p.steps[i]? = some s := ⟨_, List.getElem?_eq_getElem hi⟩
        obtain ⟨x, hxi⟩ : ∃ x, a.xs[i]? = some x := ⟨_, List.getElem?_eq_getElem (by rw [hp2.len]; exact hi)⟩
        have hss := hp2.each i s x hsi hxi
        have hw : Rs ro2 x.1 s.ways.length x.2 2 (waysV s.ways) := hss.ways
        have hws := hsm.1 s (List.mem_of_getElem? hsi)
        have hd := stepsV_drop _ _ _ _ _ hp2.inn hsi hxi
        have hrow := stepV_len (x := x) hss.inn
        have hright := hrt s (List.mem_of_getElem? hsi)
        have hfn := follow_in (i := i) hright
        obtain ⟨q, hq⟩ : ∃ q, w[i]? = some q := ⟨_, List.getElem?_eq_getElem (by rw [j2.sound.len]; exact hi)⟩
        have hgq : (boolsV w)[i]? = some (.bool q) := by simp [boolsV, hq]
        repeat (first
          | refine SeqOk.pass ?_
          | (show _ ∧ _; exact ⟨rfl, rfl, rfl⟩)
          | refine wkT ?_
          | refine Bs.all ?_
          | (show QOk _ _ _ _ _ _ _; refine QOk.build rfl rfl Nf.auto ?_)
          | (show OpOk _ _ _ _ _ _ _; first | refine opB (fun b => ?_) | refine opA (fun a' c' hc1 hc2 => ?_))
          | (show GJ _ _ _ _ _ _ _; first | refine GJ.t omAuto ?_ | refine GJ.f omAuto ?_ | refine GJ.ft omAuto ?_ | refine GJ.ff omAuto ?_ | refine GJ.t (by decide) ?_ | refine GJ.f (by decide) ?_ | refine GJ.ft (by decide) ?_ | refine GJ.ff (by decide) ?_))
        rw [Int.toNat_natCast]
        refine OpOk.loadRow rfl rfl (LdN.at hr hd) hrow ?_
        repeat (first
          | refine SeqOk.pass ?_
          | (show _ ∧ _; exact ⟨rfl, rfl, rfl⟩)
          | refine wkT ?_
          | refine Bs.all ?_
          | (show QOk _ _ _ _ _ _ _; refine QOk.build rfl rfl Nf.auto ?_)
          | (show OpOk _ _ _ _ _ _ _; first | refine opB (fun b => ?_) | refine opA (fun a' c' hc1 hc2 => ?_))
          | (show GJ _ _ _ _ _ _ _; first | refine GJ.t omAuto ?_ | refine GJ.f omAuto ?_ | refine GJ.ft omAuto ?_ | refine GJ.ff omAuto ?_ | refine GJ.t (by decide) ?_ | refine GJ.f (by decide) ?_ | refine GJ.ft (by decide) ?_ | refine GJ.ff (by decide) ?_))
        refine OpOk.storeRow rfl rfl rfl hrow (by rw [List.length_append, List.length_replicate]; rfl) (stepV_one s x) ?_
        obtain ⟨bS, hbS⟩ : ∃ z : Nat, z = b := ⟨_, rfl⟩
        subst hbS
        repeat (first
          | refine SeqOk.pass ?_
          | (show _ ∧ _; exact ⟨rfl, rfl, rfl⟩)
          | refine wkT ?_
          | refine Bs.all ?_
          | (show QOk _ _ _ _ _ _ _; refine QOk.build rfl rfl Nf.auto ?_)
          | (show OpOk _ _ _ _ _ _ _; first | refine opB (fun b => ?_) | refine opA (fun a' c' hc1 hc2 => ?_))
          | (show GJ _ _ _ _ _ _ _; first | refine GJ.t omAuto ?_ | refine GJ.f omAuto ?_ | refine GJ.ft omAuto ?_ | refine GJ.ff omAuto ?_ | refine GJ.t (by decide) ?_ | refine GJ.f (by decide) ?_ | refine GJ.ft (by decide) ?_ | refine GJ.ff (by decide) ?_))
        refine OpOk.load rfl rfl (Ld.slAt' (k := i) (by rw [Int.toNat_natCast]) hgq) ?_
        cases q with
        | false =>
          repeat (first
            | refine SeqOk.pass ?_
            | (show _ ∧ _; exact ⟨rfl, rfl, rfl⟩)
            | refine wkT ?_
            | refine Bs.all ?_
            | (show QOk _ _ _ _ _ _ _; refine QOk.build rfl rfl Nf.auto ?_)
            | (show OpOk _ _ _ _ _ _ _; first | refine opB (fun b => ?_) | refine opA (fun a' c' hc1 hc2 => ?_))
            | (show GJ _ _ _ _ _ _ _; first | refine GJ.t omAuto ?_ | refine GJ.f omAuto ?_ | refine GJ.ft omAuto ?_ | refine GJ.ff omAuto ?_ | refine GJ.t (by decide) ?_ | refine GJ.f (by decide) ?_ | refine GJ.ft (by decide) ?_ | refine GJ.ff (by decide) ?_))
          refine Wk.id ⟨(i + 1, w), ⟨rfl, ?_⟩, ?_, Sub.auto, Sup.auto⟩
          all_goals try dsimp only
          · exact ⟨by omega, j2.skip (by rw [hq]; simp)⟩
          · omega
        | true =>
          repeat (first
            | refine SeqOk.pass ?_
            | (show _ ∧ _; exact ⟨rfl, rfl, rfl⟩)
            | refine wkT ?_
            | refine Bs.all ?_
            | (show QOk _ _ _ _ _ _ _; refine QOk.build rfl rfl Nf.auto ?_)
            | (show OpOk _ _ _ _ _ _ _; first | refine opB (fun b => ?_) | refine opA (fun a' c' hc1 hc2 => ?_))
            | (show GJ _ _ _ _ _ _ _; first | refine GJ.t omAuto ?_ | refine GJ.f omAuto ?_ | refine GJ.ft omAuto ?_ | refine GJ.ff omAuto ?_ | refine GJ.t (by decide) ?_ | refine GJ.f (by decide) ?_ | refine GJ.ft (by decide) ?_ | refine GJ.ff (by decide) ?_))
          refine kname_ok ?_
          have hk20 := kind_in hright
          have W0 := j2.within hq
          have hri := j2.sound.ok i hq
          have hfr : ∀ k : Nat, (k : Int) ∈ followD s i → k < p.steps.length → Reach p k := fun k h1 h2 => .next hri hsi h1 h2
          obtain ⟨kd, hkd⟩ : ∃ kd, kindD s.kind = kd := ⟨_, rfl⟩
          have q10 : kd = [110, 101, 120, 116] ↔ s.kind = 10 := by rw [← hkd]; exact kind_name hk20 9 (by decide)
          have q11 : kd = [106, 117, 109, 112] ↔ s.kind = 11 := by rw [← hkd]; exact kind_name hk20 10 (by decide)
          have q12 : kd = [109, 97, 110, 121] ↔ s.kind = 12 := by rw [← hkd]; exact kind_name hk20 11 (by decide)
          have q13 : kd = [115, 119, 105, 116, 99, 104] ↔ s.kind = 13 := by rw [← hkd]; exact kind_name hk20 12 (by decide)
          have q14 : kd = [99, 104, 111, 105, 99, 101] ↔ s.kind = 14 := by rw [← hkd]; exact kind_name hk20 13 (by decide)
          have q15 : kd = [99, 97, 108, 108] ↔ s.kind = 15 := by rw [← hkd]; exact kind_name hk20 14 (by decide)
          have q16 : kd = [114, 101, 116, 117, 114, 110] ↔ s.kind = 16 := by rw [← hkd]; exact kind_name hk20 15 (by decide)
          have q20 : kd = [101, 110, 100] ↔ s.kind = 20 := by rw [← hkd]; exact kind_name hk20 19 (by decide)
          rw [hkd]
          clear hkd
          repeat (first
            | (show _ ∧ _; exact ⟨rfl, rfl, rfl⟩)
            | refine wkT ?_
            | refine Bs.all ?_
            | (show RetOk _ _ _ _ _ _; refine RetOk.of (T := T) (RL.row rfl rfl LdN.hasBlk (by rfl) (RL.tmp rfl (RL.tmp rfl RL.nil))) ?_)
            | (show QOk _ _ _ _ _ _ _; refine QOk.build rfl rfl Nf.auto ?_)
            | (show OpOk _ _ _ _ _ _ _; first | refine opB (fun b => ?_) | refine opA (fun a' c' hc1 hc2 => ?_))
            | (show GJ _ _ _ _ _ _ _; first | refine GJ.t (by decide) ?_ | refine GJ.f (by decide) ?_ | refine GJ.ft (by decide) ?_ | refine GJ.ff (by decide) ?_)
            | (show Br _ _ _; first | refine Br.t (by decide) ?_ | refine Br.f (by decide) ?_)
            | (show GJ _ _ _ _ _ _ _; first | (apply GJ.and; exact rfl; intro hg) | (apply GJ.or; exact rfl; intro hg)))
          refine SeqOk.at (ι := List Bool) (ws := []) Keep.auto (fun _ => []) (fun w1 => .blk bS 42 (stepV s x) :: .sl (some ⟨bW, 0, none⟩) p.steps.length p.steps.length 4 1 (boolsV w1) :: .blk b1 33 (progV p a) :: own) (fun w1 => Within p r i w1 (MarkA s)) ?_ ?_
          · by_cases hA : s.kind = 10 ∨ s.kind = 11 ∨ s.kind = 12 ∨ s.kind = 15
            · have hto : 0 ≤ s.a ∧ s.a < (p.steps.length : Int) := by
                have := hright
                unfold rightD at this
                rw [if_neg (by omega), if_neg (by omega), if_neg (by omega), if_neg (by omega), if_neg (by omega), if_pos hA] at this
                simpa [toB] using this
              obtain ⟨ka, hka⟩ : ∃ ka : Nat, s.a = (ka : Int) := ⟨s.a.toNat, by omega⟩
              have hkn : ka < p.steps.length := by omega
              have W1 := (W0.mark hkn (hfr ka (mark_follow (n := 0) (.inl (.inl (.inl ⟨hA, hka⟩)))) hkn)).weaken (ks' := MarkA s) (fun z _ hz => by
                rcases hz with ⟨_, hz⟩ | ⟨hz, _⟩
                · exact .inr (by omega)
                · omega)
              rcases hA with he | he | he | he
              · obtain rfl := q10.2 he
                repeat (first
                  | refine SeqOk.pass ?_
                  | (show _ ∧ _; exact ⟨rfl, rfl, rfl⟩)
                  | refine wkT ?_
                  | refine Bs.all ?_
                  | (show RetOk _ _ _ _ _ _; refine RetOk.of (T := T) (RL.row rfl rfl LdN.hasBlk (by rfl) (RL.tmp rfl (RL.tmp rfl RL.nil))) ?_)
                  | (show QOk _ _ _ _ _ _ _; refine QOk.build rfl rfl Nf.auto ?_)
                  | (show OpOk _ _ _ _ _ _ _; first | refine opB (fun b => ?_) | refine opA (fun a' c' hc1 hc2 => ?_))
                  | (show GJ _ _ _ _ _ _ _; first | refine GJ.t (by decide) ?_ | refine GJ.f (by decide) ?_ | refine GJ.ft (by decide) ?_ | refine GJ.ff (by decide) ?_)
                  | (show Br _ _ _; first | refine Br.t (by decide) ?_ | refine Br.f (by decide) ?_)
                  | (show GJ _ _ _ _ _ _ _; first | (apply GJ.and; exact rfl; intro hg) | (apply GJ.or; exact rfl; intro hg)))
                refine OpOk.storeSlAt' (k := ka) rfl rfl rfl rfl (by rw [hka]; rfl) (by rw [hwl]; exact hkn) ?_
                rw [boolsV_set]
                repeat (first
                  | refine SeqOk.pass ?_
                  | (show _ ∧ _; exact ⟨rfl, rfl, rfl⟩)
                  | refine wkT ?_
                  | refine Bs.all ?_
                  | (show RetOk _ _ _ _ _ _; refine RetOk.of (T := T) (RL.row rfl rfl LdN.hasBlk (by rfl) (RL.tmp rfl (RL.tmp rfl RL.nil))) ?_)
                  | (show QOk _ _ _ _ _ _ _; refine QOk.build rfl rfl Nf.auto ?_)
                  | (show OpOk _ _ _ _ _ _ _; first | refine opB (fun b => ?_) | refine opA (fun a' c' hc1 hc2 => ?_))
                  | (show GJ _ _ _ _ _ _ _; first | refine GJ.t (by decide) ?_ | refine GJ.f (by decide) ?_ | refine GJ.ft (by decide) ?_ | refine GJ.ff (by decide) ?_)
                  | (show Br _ _ _; first | refine Br.t (by decide) ?_ | refine Br.f (by decide) ?_)
                  | (show GJ _ _ _ _ _ _ _; first | (apply GJ.and; exact rfl; intro hg) | (apply GJ.or; exact rfl; intro hg)))
                refine Wk.id ⟨w.set ka true, ⟨rfl, W1⟩, Sub.auto, Sup.auto⟩
              · obtain rfl := q11.2 he
                repeat (first
                  | refine SeqOk.pass ?_
                  | (show _ ∧ _; exact ⟨rfl, rfl, rfl⟩)
                  | refine wkT ?_
                  | refine Bs.all ?_
                  | (show RetOk _ _ _ _ _ _; refine RetOk.of (T := T) (RL.row rfl rfl LdN.hasBlk (by rfl) (RL.tmp rfl (RL.tmp rfl RL.nil))) ?_)
                  | (show QOk _ _ _ _ _ _ _; refine QOk.build rfl rfl Nf.auto ?_)
                  | (show OpOk _ _ _ _ _ _ _; first | refine opB (fun b => ?_) | refine opA (fun a' c' hc1 hc2 => ?_))
                  | (show GJ _ _ _ _ _ _ _; first | refine GJ.t (by decide) ?_ | refine GJ.f (by decide) ?_ | refine GJ.ft (by decide) ?_ | refine GJ.ff (by decide) ?_)
                  | (show Br _ _ _; first | refine Br.t (by decide) ?_ | refine Br.f (by decide) ?_)
                  | (show GJ _ _ _ _ _ _ _; first | (apply GJ.and; exact rfl; intro hg) | (apply GJ.or; exact rfl; intro hg)))
                refine OpOk.storeSlAt' (k := ka) rfl rfl rfl rfl (by rw [hka]; rfl) (by rw [hwl]; exact hkn) ?_
                rw [boolsV_set]
                repeat (first
                  | refine SeqOk.pass ?_
                  | (show _ ∧ _; exact ⟨rfl, rfl, rfl⟩)
                  | refine wkT ?_
                  | refine Bs.all ?_
                  | (show RetOk _ _ _ _ _ _; refine RetOk.of (T := T) (RL.row rfl rfl LdN.hasBlk (by rfl) (RL.tmp rfl (RL.tmp rfl RL.nil))) ?_)
                  | (show QOk _ _ _ _ _ _ _; refine QOk.build rfl rfl Nf.auto ?_)
                  | (show OpOk _ _ _ _ _ _ _; first | refine opB (fun b => ?_) | refine opA (fun a' c' hc1 hc2 => ?_))
                  | (show GJ _ _ _ _ _ _ _; first | refine GJ.t (by decide) ?_ | refine GJ.f (by decide) ?_ | refine GJ.ft (by decide) ?_ | refine GJ.ff (by decide) ?_)
                  | (show Br _ _ _; first | refine Br.t (by decide) ?_ | refine Br.f (by decide) ?_)
                  | (show GJ _ _ _ _ _ _ _; first | (apply GJ.and; exact rfl; intro hg) | (apply GJ.or; exact rfl; intro hg)))
                refine Wk.id ⟨w.set ka true, ⟨rfl, W1⟩, Sub.auto, Sup.auto⟩
              · obtain rfl := q12.2 he
                repeat (first
                  | refine SeqOk.pass ?_
                  | (show _ ∧ _; exact ⟨rfl, rfl, rfl⟩)
                  | refine wkT ?_
                  | refine Bs.all ?_
                  | (show RetOk _ _ _ _ _ _; refine RetOk.of (T := T) (RL.row rfl rfl LdN.hasBlk (by rfl) (RL.tmp rfl (RL.tmp rfl RL.nil))) ?_)
                  | (show QOk _ _ _ _ _ _ _; refine QOk.build rfl rfl Nf.auto ?_)
                  | (show OpOk _ _ _ _ _ _ _; first | refine opB (fun b => ?_) | refine opA (fun a' c' hc1 hc2 => ?_))
                  | (show GJ _ _ _ _ _ _ _; first | refine GJ.t (by decide) ?_ | refine GJ.f (by decide) ?_ | refine GJ.ft (by decide) ?_ | refine GJ.ff (by decide) ?_)
                  | (show Br _ _ _; first | refine Br.t (by decide) ?_ | refine Br.f (by decide) ?_)
                  | (show GJ _ _ _ _ _ _ _; first | (apply GJ.and; exact rfl; intro hg) | (apply GJ.or; exact rfl; intro hg)))
                refine OpOk.storeSlAt' (k := ka) rfl rfl rfl rfl (by rw [hka]; rfl) (by rw [hwl]; exact hkn) ?_
                rw [boolsV_set]
                repeat (first
                  | refine SeqOk.pass ?_
                  | (show _ ∧ _; exact ⟨rfl, rfl, rfl⟩)
                  | refine wkT ?_
                  | refine Bs.all ?_
                  | (show RetOk _ _ _ _ _ _; refine RetOk.of (T := T) (RL.row rfl rfl LdN.hasBlk (by rfl) (RL.tmp rfl (RL.tmp rfl RL.nil))) ?_)
                  | (show QOk _ _ _ _ _ _ _; refine QOk.build rfl rfl Nf.auto ?_)
                  | (show OpOk _ _ _ _ _ _ _; first | refine opB (fun b => ?_) | refine opA (fun a' c' hc1 hc2 => ?_))
                  | (show GJ _ _ _ _ _ _ _; first | refine GJ.t (by decide) ?_ | refine GJ.f (by decide) ?_ | refine GJ.ft (by decide) ?_ | refine GJ.ff (by decide) ?_)
                  | (show Br _ _ _; first | refine Br.t (by decide) ?_ | refine Br.f (by decide) ?_)
                  | (show GJ _ _ _ _ _ _ _; first | (apply GJ.and; exact rfl; intro hg) | (apply GJ.or; exact rfl; intro hg)))
                refine Wk.id ⟨w.set ka true, ⟨rfl, W1⟩, Sub.auto, Sup.auto⟩
              · obtain rfl := q15.2 he
                repeat (first
                  | refine SeqOk.pass ?_
                  | (show _ ∧ _; exact ⟨rfl, rfl, rfl⟩)
                  | refine wkT ?_
                  | refine Bs.all ?_
                  | (show RetOk _ _ _ _ _ _; refine RetOk.of (T := T) (RL.row rfl rfl LdN.hasBlk (by rfl) (RL.tmp rfl (RL.tmp rfl RL.nil))) ?_)
                  | (show QOk _ _ _ _ _ _ _; refine QOk.build rfl rfl Nf.auto ?_)
                  | (show OpOk _ _ _ _ _ _ _; first | refine opB (fun b => ?_) | refine opA (fun a' c' hc1 hc2 => ?_))
                  | (show GJ _ _ _ _ _ _ _; first | refine GJ.t (by decide) ?_ | refine GJ.f (by decide) ?_ | refine GJ.ft (by decide) ?_ | refine GJ.ff (by decide) ?_)
                  | (show Br _ _ _; first | refine Br.t (by decide) ?_ | refine Br.f (by decide) ?_)
                  | (show GJ _ _ _ _ _ _ _; first | (apply GJ.and; exact rfl; intro hg) | (apply GJ.or; exact rfl; intro hg)))
                refine OpOk.storeSlAt' (k := ka) rfl rfl rfl rfl (by rw [hka]; rfl) (by rw [hwl]; exact hkn) ?_
                rw [boolsV_set]
                repeat (first
                  | refine SeqOk.pass ?_
                  | (show _ ∧ _; exact ⟨rfl, rfl, rfl⟩)
                  | refine wkT ?_
                  | refine Bs.all ?_
                  | (show RetOk _ _ _ _ _ _; refine RetOk.of (T := T) (RL.row rfl rfl LdN.hasBlk (by rfl) (RL.tmp rfl (RL.tmp rfl RL.nil))) ?_)
                  | (show QOk _ _ _ _ _ _ _; refine QOk.build rfl rfl Nf.auto ?_)
                  | (show OpOk _ _ _ _ _ _ _; first | refine opB (fun b => ?_) | refine opA (fun a' c' hc1 hc2 => ?_))
                  | (show GJ _ _ _ _ _ _ _; first | refine GJ.t (by decide) ?_ | refine GJ.f (by decide) ?_ | refine GJ.ft (by decide) ?_ | refine GJ.ff (by decide) ?_)
                  | (show Br _ _ _; first | refine Br.t (by decide) ?_ | refine Br.f (by decide) ?_)
                  | (show GJ _ _ _ _ _ _ _; first | (apply GJ.and; exact rfl; intro hg) | (apply GJ.or; exact rfl; intro hg)))
                refine Wk.id ⟨w.set ka true, ⟨rfl, W1⟩, Sub.auto, Sup.auto⟩
            by_cases h13 : s.kind = 13
            · have he := h13
              obtain rfl := q13.2 he
              by_cases hb : 0 ≤ s.b
              · have hto : s.b < (p.steps.length : Int) := by
                  have := hright
                  simp [rightD, he, toB] at this
                  omega
                obtain ⟨kb, hkb⟩ : ∃ kb : Nat, s.b = (kb : Int) := ⟨s.b.toNat, by omega⟩
                have hkn : kb < p.steps.length := by omega
                have W1 := (W0.mark hkn (hfr kb (mark_follow (n := 0) (.inl (.inl (.inr ⟨he, hkb⟩)))) hkn)).weaken (ks' := MarkA s) (fun z _ hz => by
                  rcases hz with ⟨hz, _⟩ | ⟨_, hz⟩
                  · omega
                  · exact .inr (by omega))
                repeat (first
                  | refine SeqOk.pass ?_
                  | (show _ ∧ _; exact ⟨rfl, rfl, rfl⟩)
                  | refine wkT ?_
                  | refine Bs.all ?_
                  | (show RetOk _ _ _ _ _ _; refine RetOk.of (T := T) (RL.row rfl rfl LdN.hasBlk (by rfl) (RL.tmp rfl (RL.tmp rfl RL.nil))) ?_)
                  | (show QOk _ _ _ _ _ _ _; refine QOk.build rfl rfl Nf.auto ?_)
                  | (show OpOk _ _ _ _ _ _ _; first | refine opB (fun b => ?_) | refine opA (fun a' c' hc1 hc2 => ?_))
                  | (show GJ _ _ _ _ _ _ _; first | refine GJ.t (by decide) ?_ | refine GJ.f (by decide) ?_ | refine GJ.ft (by decide) ?_ | refine GJ.ff (by decide) ?_)
                  | (show Br _ _ _; first | refine Br.t (by decide) ?_ | refine Br.f (by decide) ?_)
                  | (show GJ _ _ _ _ _ _ _; first | (apply GJ.and; exact rfl; intro hg) | (apply GJ.or; exact rfl; intro hg)))
                refine OpOk.storeSlAt' (k := kb) rfl rfl rfl rfl (by rw [hkb]; rfl) (by rw [hwl]; exact hkn) ?_
                rw [boolsV_set]
                repeat (first
                  | refine SeqOk.pass ?_
                  | (show _ ∧ _; exact ⟨rfl, rfl, rfl⟩)
                  | refine wkT ?_
                  | refine Bs.all ?_
                  | (show RetOk _ _ _ _ _ _; refine RetOk.of (T := T) (RL.row rfl rfl LdN.hasBlk (by rfl) (RL.tmp rfl (RL.tmp rfl RL.nil))) ?_)
                  | (show QOk _ _ _ _ _ _ _; refine QOk.build rfl rfl Nf.auto ?_)
                  | (show OpOk _ _ _ _ _ _ _; first | refine opB (fun b => ?_) | refine opA (fun a' c' hc1 hc2 => ?_))
                  | (show GJ _ _ _ _ _ _ _; first | refine GJ.t (by decide) ?_ | refine GJ.f (by decide) ?_ | refine GJ.ft (by decide) ?_ | refine GJ.ff (by decide) ?_)
                  | (show Br _ _ _; first | refine Br.t (by decide) ?_ | refine Br.f (by decide) ?_)
                  | (show GJ _ _ _ _ _ _ _; first | (apply GJ.and; exact rfl; intro hg) | (apply GJ.or; exact rfl; intro hg)))
                refine Wk.id ⟨w.set kb true, ⟨rfl, W1⟩, Sub.auto, Sup.auto⟩
              · have W1 := W0.weaken (ks' := MarkA s) (fun z _ hz => by rcases hz with ⟨hz, _⟩ | ⟨_, hz⟩ <;> omega)
                repeat (first
                  | refine SeqOk.pass ?_
                  | (show _ ∧ _; exact ⟨rfl, rfl, rfl⟩)
                  | refine wkT ?_
                  | refine Bs.all ?_
                  | (show RetOk _ _ _ _ _ _; refine RetOk.of (T := T) (RL.row rfl rfl LdN.hasBlk (by rfl) (RL.tmp rfl (RL.tmp rfl RL.nil))) ?_)
                  | (show QOk _ _ _ _ _ _ _; refine QOk.build rfl rfl Nf.auto ?_)
                  | (show OpOk _ _ _ _ _ _ _; first | refine opB (fun b => ?_) | refine opA (fun a' c' hc1 hc2 => ?_))
                  | (show GJ _ _ _ _ _ _ _; first | refine GJ.t (by decide) ?_ | refine GJ.f (by decide) ?_ | refine GJ.ft (by decide) ?_ | refine GJ.ff (by decide) ?_)
                  | (show Br _ _ _; first | refine Br.t (by decide) ?_ | refine Br.f (by decide) ?_)
                  | (show GJ _ _ _ _ _ _ _; first | (apply GJ.and; exact rfl; intro hg) | (apply GJ.or; exact rfl; intro hg)))
                refine Wk.id ⟨w, ⟨rfl, W1⟩, Sub.auto, Sup.auto⟩
            · have W1 := W0.weaken (ks' := MarkA s) (fun z _ hz => by rcases hz with ⟨hz, _⟩ | ⟨hz, _⟩ <;> omega)
              have n10 : ¬ kd = [110, 101, 120, 116] := fun h => hA (.inl (q10.1 h))
              have n11 : ¬ kd = [106, 117, 109, 112] := fun h => hA (.inr (.inl (q11.1 h)))
              have n12 : ¬ kd = [109, 97, 110, 121] := fun h => hA (.inr (.inr (.inl (q12.1 h))))
              have n15 : ¬ kd = [99, 97, 108, 108] := fun h => hA (.inr (.inr (.inr (q15.1 h))))
              have n13 : ¬ kd = [115, 119, 105, 116, 99, 104] := fun h => h13 (q13.1 h)
              repeat (first
                | refine SeqOk.pass ?_
                | (show _ ∧ _; exact ⟨rfl, rfl, rfl⟩)
                | refine wkT ?_
                | refine Bs.all ?_
                | (show RetOk _ _ _ _ _ _; refine RetOk.of (T := T) (RL.row rfl rfl LdN.hasBlk (by rfl) (RL.tmp rfl (RL.tmp rfl RL.nil))) ?_)
                | (show QOk _ _ _ _ _ _ _; refine QOk.build rfl rfl Nf.auto ?_)
                | (show OpOk _ _ _ _ _ _ _; first | refine opB (fun b => ?_) | refine opA (fun a' c' hc1 hc2 => ?_))
                | (show GJ _ _ _ _ _ _ _; first | refine GJ.t (by decide) ?_ | refine GJ.f (by decide) ?_ | refine GJ.ft (by decide) ?_ | refine GJ.ff (by decide) ?_)
                | (show GJ _ _ _ _ _ _ _; first | refine GJ.t (by assumption) ?_ | refine GJ.f (by assumption) ?_ | refine GJ.ft (by assumption) ?_ | refine GJ.ff (by assumption) ?_)
                | (show Br _ _ _; first | refine Br.t (by decide) ?_ | refine Br.f (by decide) ?_ | refine Br.t (by assumption) ?_ | refine Br.f (by assumption) ?_)
                | (show GJ _ _ _ _ _ _ _; first | (apply GJ.and; exact rfl; intro hg) | (apply GJ.or; exact rfl; intro hg)))
              refine Wk.id ⟨w, ⟨rfl, W1⟩, Sub.auto, Sup.auto⟩
          rintro w1 W1
          dsimp only [List.cons_append, List.nil_append] at W1 ⊢
          have hwl1 : (boolsV w1).length = p.steps.length := by simp [boolsV, W1.sound.len]
          repeat (first
            | (show _ ∧ _; exact ⟨rfl, rfl, rfl⟩)
            | refine wkT ?_
            | refine Bs.all ?_
            | (show RetOk _ _ _ _ _ _; refine RetOk.of (T := T) (RL.row rfl rfl LdN.hasBlk (by rfl) (RL.tmp rfl (RL.tmp rfl RL.nil))) ?_)
            | (show QOk _ _ _ _ _ _ _; refine QOk.build rfl rfl Nf.auto ?_)
            | (show OpOk _ _ _ _ _ _ _; first | refine opB (fun b => ?_) | refine opA (fun a' c' hc1 hc2 => ?_))
            | (show GJ _ _ _ _ _ _ _; first | refine GJ.t (by decide) ?_ | refine GJ.f (by decide) ?_ | refine GJ.ft (by decide) ?_ | refine GJ.ff (by decide) ?_)
            | (show Br _ _ _; first | refine Br.t (by decide) ?_ | refine Br.f (by decide) ?_)
            | (show GJ _ _ _ _ _ _ _; first | (apply GJ.and; exact rfl; intro hg) | (apply GJ.or; exact rfl; intro hg)))
          refine LoopOk.at (ι := Nat × List Bool) Keep.auto (fun (y, w2) => [(71, .int .i64 (y : Int))]) (fun (y, w2) => .blk bS 42 (stepV s x) :: .sl (some ⟨bW, 0, none⟩) p.steps.length p.steps.length 4 1 (boolsV w2) :: .blk b1 33 (progV p a) :: own) (fun (y, w2) => y ≤ s.ways.length ∧ Within p r i w2 (MarkB s y)) (fun (y, w2) => s.ways.length - y) (0, w1) ?_ Sub.auto Sup.auto ?_
          · exact ⟨Nat.zero_le _, W1.weaken (fun z _ hz => hz.elim id (fun ⟨_, v, hv, _⟩ => by simp at hv))⟩
          rintro ⟨y, w2⟩ ⟨y1, y2⟩
          dsimp only [List.cons_append, List.nil_append] at y1 y2 ⊢
          have hwl2 : (boolsV w2).length = p.steps.length := by simp [boolsV, y2.sound.len]
          by_cases hy : y < s.ways.length
          · obtain ⟨v, hvi⟩ : ∃ v, s.ways[y]? = some v := ⟨_, List.getElem?_eq_getElem hy⟩
            have hd2 := waysV_drop _ _ _ hvi
            have htk : s.ways.take (y + 1) = s.ways.take y ++ [v] := by rw [List.take_add_one, hvi]; rfl
            repeat (first
              | refine SeqOk.pass ?_
              | (show _ ∧ _; exact ⟨rfl, rfl, rfl⟩)
              | refine wkT ?_
              | refine Bs.all ?_
              | (show RetOk _ _ _ _ _ _; refine RetOk.of (T := T) (RL.row rfl rfl LdN.hasBlk (by rfl) (RL.tmp rfl (RL.tmp rfl RL.nil))) ?_)
              | (show QOk _ _ _ _ _ _ _; refine QOk.build rfl rfl Nf.auto ?_)
              | (show OpOk _ _ _ _ _ _ _; first | refine opB (fun b => ?_) | refine opA (fun a' c' hc1 hc2 => ?_))
              | (show GJ _ _ _ _ _ _ _; first | refine GJ.t (by decide) ?_ | refine GJ.f (by decide) ?_ | refine GJ.ft (by decide) ?_ | refine GJ.ff (by decide) ?_)
              | (show Br _ _ _; first | refine Br.t (by decide) ?_ | refine Br.f (by decide) ?_)
              | (show GJ _ _ _ _ _ _ _; first | (apply GJ.and; exact rfl; intro hg) | (apply GJ.or; exact rfl; intro hg)))
            rw [Int.toNat_natCast]
            refine OpOk.loadRow rfl rfl (LdN.at hw hd2) rfl ?_
            by_cases hB : s.kind = 13 ∨ s.kind = 14
            · have hvt := ways_in (by have := hright; rcases hB with he | he <;> (simp [rightD, he] at this; exact this.2)) v (List.mem_of_getElem? hvi)
              obtain ⟨kv, hkv⟩ : ∃ kv : Nat, v.to = (kv : Int) := ⟨v.to.toNat, by omega⟩
              have hkn : kv < p.steps.length := by omega
              have W2 := (y2.mark hkn (hfr kv (mark_follow (n := y + 1) (.inl (.inr ⟨hB, v, by rw [htk]; simp, hkv⟩))) hkn)).weaken (ks' := MarkB s (y + 1)) (fun z _ hz => by
                rcases hz with hz | ⟨h1, v2, hv2, hz⟩
                · exact .inl (.inl hz)
                · rw [htk] at hv2
                  rcases List.mem_append.1 hv2 with hv2 | hv2
                  · exact .inl (.inr ⟨h1, v2, hv2, hz⟩)
                  · rw [List.mem_singleton] at hv2; subst hv2; exact .inr (by omega))
              rcases hB with he | he
              · obtain rfl := q13.2 he
                repeat (first
                  | refine SeqOk.pass ?_
                  | (show _ ∧ _; exact ⟨rfl, rfl, rfl⟩)
                  | refine wkT ?_
                  | refine Bs.all ?_
                  | (show RetOk _ _ _ _ _ _; refine RetOk.of (T := T) (RL.row rfl rfl LdN.hasBlk (by rfl) (RL.tmp rfl (RL.tmp rfl RL.nil))) ?_)
                  | (show QOk _ _ _ _ _ _ _; refine QOk.build rfl rfl Nf.auto ?_)
                  | (show OpOk _ _ _ _ _ _ _; first | refine opB (fun b => ?_) | refine opA (fun a' c' hc1 hc2 => ?_))
                  | (show GJ _ _ _ _ _ _ _; first | refine GJ.t (by decide) ?_ | refine GJ.f (by decide) ?_ | refine GJ.ft (by decide) ?_ | refine GJ.ff (by decide) ?_)
                  | (show Br _ _ _; first | refine Br.t (by decide) ?_ | refine Br.f (by decide) ?_)
                  | (show GJ _ _ _ _ _ _ _; first | (apply GJ.and; exact rfl; intro hg) | (apply GJ.or; exact rfl; intro hg)))
                refine OpOk.storeSlAt' (k := kv) rfl rfl rfl rfl (by rw [hkv]; rfl) (by rw [hwl2]; exact hkn) ?_
                rw [boolsV_set]
                repeat (first
                  | refine SeqOk.pass ?_
                  | (show _ ∧ _; exact ⟨rfl, rfl, rfl⟩)
                  | refine wkT ?_
                  | refine Bs.all ?_
                  | (show RetOk _ _ _ _ _ _; refine RetOk.of (T := T) (RL.row rfl rfl LdN.hasBlk (by rfl) (RL.tmp rfl (RL.tmp rfl RL.nil))) ?_)
                  | (show QOk _ _ _ _ _ _ _; refine QOk.build rfl rfl Nf.auto ?_)
                  | (show OpOk _ _ _ _ _ _ _; first | refine opB (fun b => ?_) | refine opA (fun a' c' hc1 hc2 => ?_))
                  | (show GJ _ _ _ _ _ _ _; first | refine GJ.t (by decide) ?_ | refine GJ.f (by decide) ?_ | refine GJ.ft (by decide) ?_ | refine GJ.ff (by decide) ?_)
                  | (show Br _ _ _; first | refine Br.t (by decide) ?_ | refine Br.f (by decide) ?_)
                  | (show GJ _ _ _ _ _ _ _; first | (apply GJ.and; exact rfl; intro hg) | (apply GJ.or; exact rfl; intro hg)))
                refine Wk.id ⟨(y + 1, w2.set kv true), ⟨rfl, ?_⟩, ?_, Sub.auto, Sup.auto⟩
                all_goals try dsimp only
                · exact ⟨by omega, W2⟩
                · omega
              · obtain rfl := q14.2 he
                repeat (first
                  | refine SeqOk.pass ?_
                  | (show _ ∧ _; exact ⟨rfl, rfl, rfl⟩)
                  | refine wkT ?_
                  | refine Bs.all ?_
                  | (show RetOk _ _ _ _ _ _; refine RetOk.of (T := T) (RL.row rfl rfl LdN.hasBlk (by rfl) (RL.tmp rfl (RL.tmp rfl RL.nil))) ?_)
                  | (show QOk _ _ _ _ _ _ _; refine QOk.build rfl rfl Nf.auto ?_)
                  | (show OpOk _ _ _ _ _ _ _; first | refine opB (fun b => ?_) | refine opA (fun a' c' hc1 hc2 => ?_))
                  | (show GJ _ _ _ _ _ _ _; first | refine GJ.t (by decide) ?_ | refine GJ.f (by decide) ?_ | refine GJ.ft (by decide) ?_ | refine GJ.ff (by decide) ?_)
                  | (show Br _ _ _; first | refine Br.t (by decide) ?_ | refine Br.f (by decide) ?_)
                  | (show GJ _ _ _ _ _ _ _; first | (apply GJ.and; exact rfl; intro hg) | (apply GJ.or; exact rfl; intro hg)))
                refine OpOk.storeSlAt' (k := kv) rfl rfl rfl rfl (by rw [hkv]; rfl) (by rw [hwl2]; exact hkn) ?_
                rw [boolsV_set]
                repeat (first
                  | refine SeqOk.pass ?_
                  | (show _ ∧ _; exact ⟨rfl, rfl, rfl⟩)
                  | refine wkT ?_
                  | refine Bs.all ?_
                  | (show RetOk _ _ _ _ _ _; refine RetOk.of (T := T) (RL.row rfl rfl LdN.hasBlk (by rfl) (RL.tmp rfl (RL.tmp rfl RL.nil))) ?_)
                  | (show QOk _ _ _ _ _ _ _; refine QOk.build rfl rfl Nf.auto ?_)
                  | (show OpOk _ _ _ _ _ _ _; first | refine opB (fun b => ?_) | refine opA (fun a' c' hc1 hc2 => ?_))
                  | (show GJ _ _ _ _ _ _ _; first | refine GJ.t (by decide) ?_ | refine GJ.f (by decide) ?_ | refine GJ.ft (by decide) ?_ | refine GJ.ff (by decide) ?_)
                  | (show Br _ _ _; first | refine Br.t (by decide) ?_ | refine Br.f (by decide) ?_)
                  | (show GJ _ _ _ _ _ _ _; first | (apply GJ.and; exact rfl; intro hg) | (apply GJ.or; exact rfl; intro hg)))
                refine Wk.id ⟨(y + 1, w2.set kv true), ⟨rfl, ?_⟩, ?_, Sub.auto, Sup.auto⟩
                all_goals try dsimp only
                · exact ⟨by omega, W2⟩
                · omega
            · have W2 := y2.weaken (ks' := MarkB s (y + 1)) (fun z _ hz => by
                rcases hz with hz | ⟨h1, _⟩
                · exact .inl hz
                · exact absurd h1 hB)
              have n13 : ¬ kd = [115, 119, 105, 116, 99, 104] := fun h => hB (.inl (q13.1 h))
              have n14 : ¬ kd = [99, 104, 111, 105, 99, 101] := fun h => hB (.inr (q14.1 h))
              repeat (first
                | refine SeqOk.pass ?_
                | (show _ ∧ _; exact ⟨rfl, rfl, rfl⟩)
                | refine wkT ?_
                | refine Bs.all ?_
                | (show RetOk _ _ _ _ _ _; refine RetOk.of (T := T) (RL.row rfl rfl LdN.hasBlk (by rfl) (RL.tmp rfl (RL.tmp rfl RL.nil))) ?_)
                | (show QOk _ _ _ _ _ _ _; refine QOk.build rfl rfl Nf.auto ?_)
                | (show OpOk _ _ _ _ _ _ _; first | refine opB (fun b => ?_) | refine opA (fun a' c' hc1 hc2 => ?_))
                | (show GJ _ _ _ _ _ _ _; first | refine GJ.t (by decide) ?_ | refine GJ.f (by decide) ?_ | refine GJ.ft (by decide) ?_ | refine GJ.ff (by decide) ?_)
                | (show GJ _ _ _ _ _ _ _; first | refine GJ.t (by assumption) ?_ | refine GJ.f (by assumption) ?_ | refine GJ.ft (by assumption) ?_ | refine GJ.ff (by assumption) ?_)
                | (show Br _ _ _; first | refine Br.t (by decide) ?_ | refine Br.f (by decide) ?_ | refine Br.t (by assumption) ?_ | refine Br.f (by assumption) ?_)
                | (show GJ _ _ _ _ _ _ _; first | (apply GJ.and; exact rfl; intro hg) | (apply GJ.or; exact rfl; intro hg)))
              refine Wk.id ⟨(y + 1, w2), ⟨rfl, ?_⟩, ?_, Sub.auto, Sup.auto⟩
              all_goals try dsimp only
              · exact ⟨by omega, W2⟩
              · omega
          obtain rfl : y = s.ways.length := by omega
          by_cases hN : NextK s
          · have m11 : ¬ kd = [106, 117, 109, 112] := fun h => hN (.inl (q11.1 h))
            have m16 : ¬ kd = [114, 101, 116, 117, 114, 110] := fun h => hN (.inr (.inl (q16.1 h)))
            have m20 : ¬ kd = [101, 110, 100] := fun h => hN (.inr (.inr (.inl (q20.1 h))))
            have m13 : ¬ kd = [115, 119, 105, 116, 99, 104] := fun h => hN (.inr (.inr (.inr (.inl (q13.1 h)))))
            have m14 : ¬ kd = [99, 104, 111, 105, 99, 101] := fun h => hN (.inr (.inr (.inr (.inr (q14.1 h)))))
            by_cases hin : i + 1 < p.steps.length
            · have W9 := y2.mark hin (hfr (i + 1) (mark_follow (n := 0) (.inr ⟨hN, rfl⟩)) hin)
              repeat (first
                | refine SeqOk.pass ?_
                | (show _ ∧ _; exact ⟨rfl, rfl, rfl⟩)
                | refine wkT ?_
                | refine Bs.all ?_
                | (show RetOk _ _ _ _ _ _; refine RetOk.of (T := T) (RL.row rfl rfl LdN.hasBlk (by rfl) (RL.tmp rfl (RL.tmp rfl RL.nil))) ?_)
                | (show QOk _ _ _ _ _ _ _; refine QOk.build rfl rfl Nf.auto ?_)
                | (show OpOk _ _ _ _ _ _ _; first | refine opB (fun b => ?_) | refine opA (fun a' c' hc1 hc2 => ?_))
                | (show GJ _ _ _ _ _ _ _; first | refine GJ.t (by decide) ?_ | refine GJ.f (by decide) ?_ | refine GJ.ft (by decide) ?_ | refine GJ.ff (by decide) ?_)
                | (show GJ _ _ _ _ _ _ _; first | refine GJ.t (by assumption) ?_ | refine GJ.f (by assumption) ?_ | refine GJ.ft (by assumption) ?_ | refine GJ.ff (by assumption) ?_)
                | (show Br _ _ _; first | refine Br.t (by decide) ?_ | refine Br.f (by decide) ?_ | refine Br.t (by assumption) ?_ | refine Br.f (by assumption) ?_)
                | (show GJ _ _ _ _ _ _ _; first | (apply GJ.and; exact rfl; intro hg) | (apply GJ.or; exact rfl; intro hg)))
              refine OpOk.storeSlAt' (k := i + 1) rfl rfl rfl rfl (by omega) (by rw [hwl2]; exact hin) ?_
              rw [boolsV_set]
              repeat (first
                | refine SeqOk.pass ?_
                | (show _ ∧ _; exact ⟨rfl, rfl, rfl⟩)
                | refine wkT ?_
                | refine Bs.all ?_
                | (show RetOk _ _ _ _ _ _; refine RetOk.of (T := T) (RL.row rfl rfl LdN.hasBlk (by rfl) (RL.tmp rfl (RL.tmp rfl RL.nil))) ?_)
                | (show QOk _ _ _ _ _ _ _; refine QOk.build rfl rfl Nf.auto ?_)
                | (show OpOk _ _ _ _ _ _ _; first | refine opB (fun b => ?_) | refine opA (fun a' c' hc1 hc2 => ?_))
                | (show GJ _ _ _ _ _ _ _; first | refine GJ.t (by decide) ?_ | refine GJ.f (by decide) ?_ | refine GJ.ft (by decide) ?_ | refine GJ.ff (by decide) ?_)
                | (show GJ _ _ _ _ _ _ _; first | refine GJ.t (by assumption) ?_ | refine GJ.f (by assumption) ?_ | refine GJ.ft (by assumption) ?_ | refine GJ.ff (by assumption) ?_)
                | (show Br _ _ _; first | refine Br.t (by decide) ?_ | refine Br.f (by decide) ?_ | refine Br.t (by assumption) ?_ | refine Br.f (by assumption) ?_)
                | (show GJ _ _ _ _ _ _ _; first | (apply GJ.and; exact rfl; intro hg) | (apply GJ.or; exact rfl; intro hg)))
              refine Wk.id ⟨(i + 1, w2.set (i + 1) true), ⟨rfl, ?_⟩, ?_, Sub.auto, Sup.auto⟩
              all_goals try dsimp only
              · exact ⟨by omega, W9.done hsi (fun z hz hzn => (follow_mark hz).imp id (fun h => h.2))⟩
              · omega
            · repeat (first
                | refine SeqOk.pass ?_
                | (show _ ∧ _; exact ⟨rfl, rfl, rfl⟩)
                | refine wkT ?_
                | refine Bs.all ?_
                | (show RetOk _ _ _ _ _ _; refine RetOk.of (T := T) (RL.row rfl rfl LdN.hasBlk (by rfl) (RL.tmp rfl (RL.tmp rfl RL.nil))) ?_)
                | (show QOk _ _ _ _ _ _ _; refine QOk.build rfl rfl Nf.auto ?_)
                | (show OpOk _ _ _ _ _ _ _; first | refine opB (fun b => ?_) | refine opA (fun a' c' hc1 hc2 => ?_))
                | (show GJ _ _ _ _ _ _ _; first | refine GJ.t (by decide) ?_ | refine GJ.f (by decide) ?_ | refine GJ.ft (by decide) ?_ | refine GJ.ff (by decide) ?_)
                | (show GJ _ _ _ _ _ _ _; first | refine GJ.t (by assumption) ?_ | refine GJ.f (by assumption) ?_ | refine GJ.ft (by assumption) ?_ | refine GJ.ff (by assumption) ?_)
                | (show Br _ _ _; first | refine Br.t (by decide) ?_ | refine Br.f (by decide) ?_ | refine Br.t (by assumption) ?_ | refine Br.f (by assumption) ?_)
                | (show GJ _ _ _ _ _ _ _; first | (apply GJ.and; exact rfl; intro hg) | (apply GJ.or; exact rfl; intro hg)))
              refine Wk.id ⟨(i + 1, w2), ⟨rfl, ?_⟩, ?_, Sub.auto, Sup.auto⟩
              all_goals try dsimp only
              · exact ⟨by omega, y2.done hsi (fun z hz hzn => (follow_mark hz).elim id (fun h => by omega))⟩
              · omega
          · have hD := y2.done hsi (fun z hz hzn => (follow_mark hz).elim id (fun h => absurd h.1 hN))
            have hN := Decidable.of_not_not hN
            rcases hN with he | he | he | he | he
            · obtain rfl := q11.2 he
              repeat (first
                | refine SeqOk.pass ?_
                | (show _ ∧ _; exact ⟨rfl, rfl, rfl⟩)
                | refine wkT ?_
                | refine Bs.all ?_
                | (show RetOk _ _ _ _ _ _; refine RetOk.of (T := T) (RL.row rfl rfl LdN.hasBlk (by rfl) (RL.tmp rfl (RL.tmp rfl RL.nil))) ?_)
                | (show QOk _ _ _ _ _ _ _; refine QOk.build rfl rfl Nf.auto ?_)
                | (show OpOk _ _ _ _ _ _ _; first | refine opB (fun b => ?_) | refine opA (fun a' c' hc1 hc2 => ?_))
                | (show GJ _ _ _ _ _ _ _; first | refine GJ.t (by decide) ?_ | refine GJ.f (by decide) ?_ | refine GJ.ft (by decide) ?_ | refine GJ.ff (by decide) ?_)
                | (show Br _ _ _; first | refine Br.t (by decide) ?_ | refine Br.f (by decide) ?_)
                | (show GJ _ _ _ _ _ _ _; first | (apply GJ.and; exact rfl; intro hg) | (apply GJ.or; exact rfl; intro hg)))
              refine Wk.id ⟨(i + 1, w2), ⟨rfl, ?_⟩, ?_, Sub.auto, Sup.auto⟩
              all_goals try dsimp only
              · exact ⟨by omega, hD⟩
              · omega
            · obtain rfl := q16.2 he
              repeat (first
                | refine SeqOk.pass ?_
                | (show _ ∧ _; exact ⟨rfl, rfl, rfl⟩)
                | refine wkT ?_
                | refine Bs.all ?_
                | (show RetOk _ _ _ _ _ _; refine RetOk.of (T := T) (RL.row rfl rfl LdN.hasBlk (by rfl) (RL.tmp rfl (RL.tmp rfl RL.nil))) ?_)
                | (show QOk _ _ _ _ _ _ _; refine QOk.build rfl rfl Nf.auto ?_)
                | (show OpOk _ _ _ _ _ _ _; first | refine opB (fun b => ?_) | refine opA (fun a' c' hc1 hc2 => ?_))
                | (show GJ _ _ _ _ _ _ _; first | refine GJ.t (by decide) ?_ | refine GJ.f (by decide) ?_ | refine GJ.ft (by decide) ?_ | refine GJ.ff (by decide) ?_)
                | (show Br _ _ _; first | refine Br.t (by decide) ?_ | refine Br.f (by decide) ?_)
                | (show GJ _ _ _ _ _ _ _; first | (apply GJ.and; exact rfl; intro hg) | (apply GJ.or; exact rfl; intro hg)))
              refine Wk.id ⟨(i + 1, w2), ⟨rfl, ?_⟩, ?_, Sub.auto, Sup.auto⟩
              all_goals try dsimp only
              · exact ⟨by omega, hD⟩
              · omega
            · obtain rfl := q20.2 he
              repeat (first
                | refine SeqOk.pass ?_
                | (show _ ∧ _; exact ⟨rfl, rfl, rfl⟩)
                | refine wkT ?_
                | refine Bs.all ?_
                | (show RetOk _ _ _ _ _ _; refine RetOk.of (T := T) (RL.row rfl rfl LdN.hasBlk (by rfl) (RL.tmp rfl (RL.tmp rfl RL.nil))) ?_)
                | (show QOk _ _ _ _ _ _ _; refine QOk.build rfl rfl Nf.auto ?_)
                | (show OpOk _ _ _ _ _ _ _; first | refine opB (fun b => ?_) | refine opA (fun a' c' hc1 hc2 => ?_))
                | (show GJ _ _ _ _ _ _ _; first | refine GJ.t (by decide) ?_ | refine GJ.f (by decide) ?_ | refine GJ.ft (by decide) ?_ | refine GJ.ff (by decide) ?_)
                | (show Br _ _ _; first | refine Br.t (by decide) ?_ | refine Br.f (by decide) ?_)
                | (show GJ _ _ _ _ _ _ _; first | (apply GJ.and; exact rfl; intro hg) | (apply GJ.or; exact rfl; intro hg)))
              refine Wk.id ⟨(i + 1, w2), ⟨rfl, ?_⟩, ?_, Sub.auto, Sup.auto⟩
              all_goals try dsimp only
              · exact ⟨by omega, hD⟩
              · omega
            · obtain rfl := q13.2 he
              repeat (first
                | refine SeqOk.pass ?_
                | (show _ ∧ _; exact ⟨rfl, rfl, rfl⟩)
                | refine wkT ?_
                | refine Bs.all ?_
                | (show RetOk _ _ _ _ _ _; refine RetOk.of (T := T) (RL.row rfl rfl LdN.hasBlk (by rfl) (RL.tmp rfl (RL.tmp rfl RL.nil))) ?_)
                | (show QOk _ _ _ _ _ _ _; refine QOk.build rfl rfl Nf.auto ?_)
                | (show OpOk _ _ _ _ _ _ _; first | refine opB (fun b => ?_) | refine opA (fun a' c' hc1 hc2 => ?_))
                | (show GJ _ _ _ _ _ _ _; first | refine GJ.t (by decide) ?_ | refine GJ.f (by decide) ?_ | refine GJ.ft (by decide) ?_ | refine GJ.ff (by decide) ?_)
                | (show Br _ _ _; first | refine Br.t (by decide) ?_ | refine Br.f (by decide) ?_)
                | (show GJ _ _ _ _ _ _ _; first | (apply GJ.and; exact rfl; intro hg) | (apply GJ.or; exact rfl; intro hg)))
              refine Wk.id ⟨(i + 1, w2), ⟨rfl, ?_⟩, ?_, Sub.auto, Sup.auto⟩
              all_goals try dsimp only
              · exact ⟨by omega, hD⟩
              · omega
            · obtain rfl := q14.2 he
              repeat (first
                | refine SeqOk.pass ?_
                | (show _ ∧ _; exact ⟨rfl, rfl, rfl⟩)
                | refine wkT ?_
                | refine Bs.all ?_
                | (show RetOk _ _ _ _ _ _; refine RetOk.of (T := T) (RL.row rfl rfl LdN.hasBlk (by rfl) (RL.tmp rfl (RL.tmp rfl RL.nil))) ?_)
                | (show QOk _ _ _ _ _ _ _; refine QOk.build rfl rfl Nf.auto ?_)
                | (show OpOk _ _ _ _ _ _ _; first | refine opB (fun b => ?_) | refine opA (fun a' c' hc1 hc2 => ?_))
                | (show GJ _ _ _ _ _ _ _; first | refine GJ.t (by decide) ?_ | refine GJ.f (by decide) ?_ | refine GJ.ft (by decide) ?_ | refine GJ.ff (by decide) ?_)
                | (show Br _ _ _; first | refine Br.t (by decide) ?_ | refine Br.f (by decide) ?_)
                | (show GJ _ _ _ _ _ _ _; first | (apply GJ.and; exact rfl; intro hg) | (apply GJ.or; exact rfl; intro hg)))
              refine Wk.id ⟨(i + 1, w2), ⟨rfl, ?_⟩, ?_, Sub.auto, Sup.auto⟩
              all_goals try dsimp only
              · exact ⟨by omega, hD⟩
              · omega
      · obtain rfl : i = p.steps.length := by omega
        repeat (first
          | refine SeqOk.pass ?_
          | (show _ ∧ _; exact ⟨rfl, rfl, rfl⟩)
          | refine wkT ?_
          | refine Bs.all ?_
          | (show QOk _ _ _ _ _ _ _; refine QOk.build rfl rfl Nf.auto ?_)
          | (show OpOk _ _ _ _ _ _ _; first | refine opB (fun b => ?_) | refine opA (fun a' c' hc1 hc2 => ?_))
          | (show GJ _ _ _ _ _ _ _; first | refine GJ.t omAuto ?_ | refine GJ.f omAuto ?_ | refine GJ.ft omAuto ?_ | refine GJ.ff omAuto ?_ | refine GJ.t (by decide) ?_ | refine GJ.f (by decide) ?_ | refine GJ.ft (by decide) ?_ | refine GJ.ff (by decide) ?_))
        refine Wk.id ⟨(r + 1, w), ⟨rfl, ?_⟩, ?_, Sub.auto, Sup.auto⟩
        all_goals try dsimp only
        · exact ⟨by omega, j2.round⟩
        · omega
    · obtain rfl : r = p.steps.length := by omega
      have hwo : w = o := want_eq i2.sound.len ho1 (fun i => (i2.all i).trans (ho2 hc i).symm)
      subst hwo
      repeat (first
        | refine SeqOk.pass ?_
        | (show _ ∧ _; exact ⟨rfl, rfl, rfl⟩)
        | refine wkT ?_
        | refine Bs.all ?_
        | (show QOk _ _ _ _ _ _ _; refine QOk.build rfl rfl Nf.auto ?_)
        | (show OpOk _ _ _ _ _ _ _; first | refine opB (fun b => ?_) | refine opA (fun a' c' hc1 hc2 => ?_))
        | (show GJ _ _ _ _ _ _ _; first | refine GJ.t omAuto ?_ | refine GJ.f omAuto ?_ | refine GJ.ft omAuto ?_ | refine GJ.ff omAuto ?_ | refine GJ.t (by decide) ?_ | refine GJ.f (by decide) ?_ | refine GJ.ft (by decide) ?_ | refine GJ.ff (by decide) ?_))
      refine LoopOk.at (ι := Nat) Keep.auto (fun y => [(119, .int .i64 (y : Int))]) (fun y => .sl (some ⟨bW, 0, none⟩) p.steps.length p.steps.length 4 1 (boolsV w) :: .blk b1 33 (progV p a) :: own) (fun y => y ≤ p.steps.length) (fun y => p.steps.length - y) 0 ?_ Sub.auto Sup.auto ?_
      · exact Nat.zero_le _
      rintro y y1
      dsimp only [List.cons_append, List.nil_append] at y1 ⊢
      have hol : (w).length = p.steps.length := ho1
      repeat (first
        | refine SeqOk.pass ?_
        | (show _ ∧ _; exact ⟨rfl, rfl, rfl⟩)
        | refine wkT ?_
        | refine Bs.all ?_
        | (show QOk _ _ _ _ _ _ _; refine QOk.build rfl rfl Nf.auto ?_)
        | (show OpOk _ _ _ _ _ _ _; first | refine opB (fun b => ?_) | refine opA (fun a' c' hc1 hc2 => ?_))
        | (show GJ _ _ _ _ _ _ _; first | refine GJ.t omAuto ?_ | refine GJ.f omAuto ?_ | refine GJ.ft omAuto ?_ | refine GJ.ff omAuto ?_ | refine GJ.t (by decide) ?_ | refine GJ.f (by decide) ?_ | refine GJ.ft (by decide) ?_ | refine GJ.ff (by decide) ?_))
      refine Br.cases (fun hgy => ?_) (fun hgy => ?_)
      · have hy : y < p.steps.length := by omega
        repeat (first
          | refine SeqOk.pass ?_
          | (show _ ∧ _; exact ⟨rfl, rfl, rfl⟩)
          | refine wkT ?_
          | refine Bs.all ?_
          | (show QOk _ _ _ _ _ _ _; refine QOk.build rfl rfl Nf.auto ?_)
          | (show OpOk _ _ _ _ _ _ _; first | refine opB (fun b => ?_) | refine opA (fun a' c' hc1 hc2 => ?_))
          | (show GJ _ _ _ _ _ _ _; first | refine GJ.t omAuto ?_ | refine GJ.f omAuto ?_ | refine GJ.ft omAuto ?_ | refine GJ.ff omAuto ?_ | refine GJ.t (by decide) ?_ | refine GJ.f (by decide) ?_ | refine GJ.ft (by decide) ?_ | refine GJ.ff (by decide) ?_))
        refine Br.cases (fun hx => absurd rfl hx) (fun hx => ?_)
        repeat (first
          | refine SeqOk.pass ?_
          | (show _ ∧ _; exact ⟨rfl, rfl, rfl⟩)
          | refine wkT ?_
          | refine Bs.all ?_
          | (show QOk _ _ _ _ _ _ _; refine QOk.build rfl rfl Nf.auto ?_)
          | (show OpOk _ _ _ _ _ _ _; first | refine opB (fun b => ?_) | refine opA (fun a' c' hc1 hc2 => ?_))
          | (show GJ _ _ _ _ _ _ _; first | refine GJ.t omAuto ?_ | refine GJ.f omAuto ?_ | refine GJ.ft omAuto ?_ | refine GJ.ff omAuto ?_ | refine GJ.t (by decide) ?_ | refine GJ.f (by decide) ?_ | refine GJ.ft (by decide) ?_ | refine GJ.ff (by decide) ?_))
        refine Wk.id ⟨y + 1, ⟨rfl, ?_⟩, ?_, Sub.auto, Sup.auto⟩
        all_goals try dsimp only
        · omega
        · omega
      · repeat (first
          | refine SeqOk.pass ?_
          | (show _ ∧ _; exact ⟨rfl, rfl, rfl⟩)
          | refine wkT ?_
          | refine Bs.all ?_
          | (show QOk _ _ _ _ _ _ _; refine QOk.build rfl rfl Nf.auto ?_)
          | (show OpOk _ _ _ _ _ _ _; first | refine opB (fun b => ?_) | refine opA (fun a' c' hc1 hc2 => ?_))
          | (show GJ _ _ _ _ _ _ _; first | refine GJ.t omAuto ?_ | refine GJ.f omAuto ?_ | refine GJ.ft omAuto ?_ | refine GJ.ff omAuto ?_ | refine GJ.t (by decide) ?_ | refine GJ.f (by decide) ?_ | refine GJ.ft (by decide) ?_ | refine GJ.ff (by decide) ?_))
        refine Wk.backB ?_ Sup.auto (.refl _) hk
        exact decide_eq_true rfl
end
end Go.Proofs.YtniofdklhlbphaaDoor
