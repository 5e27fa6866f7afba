/- Contracts of code: Clone, Program. -/
import Derived.Test.YtniofdklhlbphaaDoorCd8
import Derived.Test.YtniofdklhlbphaaDoorEn3
namespace Go.Proofs.YtniofdklhlbphaaDoor
open Go Go.E
set_option linter.unusedVariables false
set_option linter.unusedSimpArgs false
set_option maxRecDepth 10000
theorem waysV_one (l : List WayD) : ∀ u ∈ waysV l, u.oneCell' = true := fun u hu => by
  obtain ⟨w, _, hw⟩ := List.mem_flatMap.1 hu
  simp [wayV] at hw
  rcases hw with rfl | rfl <;> rfl
theorem splice_mid {A B C vs : List Value} {k : Nat} (hA : A.length = k) (hB : B.length = vs.length) : Go.E.splice (A ++ (B ++ C)) k vs = A ++ vs ++ C := by
  subst hA
  unfold Go.E.splice
  rw [List.take_left, ← List.drop_drop, List.drop_left, ← hB, List.drop_left]
  try rw [List.append_assoc]
section
variable {ro : Ro} {own r : Chs} {K : Value → Ro → Chs → Prop} {g : Chunk → Chs}
set_option maxHeartbeats 2000000 in
theorem clone_ok {p : ProgD} {a : ProgA} (hp : ProgOk ro p a) (hn : p.steps.length ≤ 65536) (hwn : ∀ s ∈ p.steps, s.ways.length ≤ 300)
    (hk : ∀ ro' a', Le ro ro' → MakeOk ro' p a' → K (.agg (progV p a').toArray) ro' (.sl a'.sa p.steps.length a'.sc 42 265 (stepsV p.steps a'.xs) :: own)) : CallOk Tryd.prog 34 #[.agg (progV p a).toArray] ro own K := by
  have hr := hp.steps
  have hle := hr.le
  have hm := hr.max
  unfold maxLen at hm
  refine CallOk.intro (args := [_]) (rs := [_]) T_ok Tryd.func34 Tryd.call34 rfl rfl (by kernel_rfl) rfl rfl ?_
  repeat (first
    | refine SeqOk.pass ?_
    | (show _ ∧ _; exact ⟨rfl, rfl, rfl⟩)
    | refine wkT ?_
    | refine Bs.all ?_
    | (show RetOk _ _ _ _ _ _; refine RetOk.of (T := T) (RL.row rfl rfl LdN.hasBlk (by rfl) (RL.tmp rfl (RL.tmp rfl RL.nil))) ?_)
    | (show QOk _ _ _ _ _ _ _; refine QOk.build rfl rfl Nf.auto ?_)
    | (show OpOk _ _ _ _ _ _ _; first | refine opB (fun b => ?_) | refine opA (fun a' c' hc1 hc2 => ?_))
    | (show GJ _ _ _ _ _ _ _; first | refine GJ.t (by decide) ?_ | refine GJ.f (by decide) ?_ | refine GJ.ft (by decide) ?_ | refine GJ.ff (by decide) ?_)
    | (show Br _ _ _; first | refine Br.t (by decide) ?_ | refine Br.f (by decide) ?_)
    | (show GJ _ _ _ _ _ _ _; first | (apply GJ.and; exact rfl; intro hg) | (apply GJ.or; exact rfl; intro hg)))
  rename_i b1 b2
  obtain ⟨b3, hb3⟩ : ∃ z : Nat, z = b := ⟨_, rfl⟩
  subst hb3
  refine OpOk.makeR rfl rfl rfl (by omega) (fun bs cs0 hcs0 => ?_)
  repeat (first
    | refine SeqOk.pass ?_
    | (show _ ∧ _; exact ⟨rfl, rfl, rfl⟩)
    | refine wkT ?_
    | refine Bs.all ?_
    | (show RetOk _ _ _ _ _ _; refine RetOk.of (T := T) (RL.row rfl rfl LdN.hasBlk (by rfl) (RL.tmp rfl (RL.tmp rfl RL.nil))) ?_)
    | (show QOk _ _ _ _ _ _ _; refine QOk.build rfl rfl Nf.auto ?_)
    | (show OpOk _ _ _ _ _ _ _; first | refine opB (fun b => ?_) | refine opA (fun a' c' hc1 hc2 => ?_))
    | (show GJ _ _ _ _ _ _ _; first | refine GJ.t (by decide) ?_ | refine GJ.f (by decide) ?_ | refine GJ.ft (by decide) ?_ | refine GJ.ff (by decide) ?_)
    | (show Br _ _ _; first | refine Br.t (by decide) ?_ | refine Br.f (by decide) ?_)
    | (show GJ _ _ _ _ _ _ _; first | (apply GJ.and; exact rfl; intro hg) | (apply GJ.or; exact rfl; intro hg)))
  refine LoopOk.auto (ι := Nat × List StepA × List Value) Keep.auto (fun (i, xs, rest) => [(15, .int .i64 (i : Int))]) (fun (i, xs, rest) => .sl (some ⟨bs, 0, none⟩) p.steps.length p.steps.length 42 265 (stepsV (p.steps.take i) xs ++ rest) :: .blk b3 33 [.slice (some ⟨bs, 0, none⟩) p.steps.length p.steps.length, .int .i64 p.slots, .int .i64 p.sums, .int .i64 p.autos] :: .blk b2 33 [.slice none 0 0, .int .i64 0, .int .i64 0, .int .i64 0] :: .blk b1 33 (progV p a) :: own) (fun (i, xs, rest) r' => i ≤ p.steps.length ∧ xs.length = i ∧ rest.length = (p.steps.length - i) * 265 ∧ (∀ (j : Nat) (s : StepD) (y : StepA), (p.steps.take i)[j]? = some s → xs[j]? = some y → StepOk r' s y)) (fun (i, xs, rest) => p.steps.length - i) (0, [], cs0) ?_ Sub.auto Sup.auto ?_
  · exact ⟨Nat.zero_le _, rfl, by simpa using hcs0, fun j s y h => by simp at h⟩
  rintro ⟨i, xs, rest⟩ ro1 hl1 ⟨i1, i2, i3, i4⟩
  dsimp only [List.cons_append, List.nil_append] at i1 i2 i3 i4 ⊢
  have hr1 : Rs ro1 a.sa p.steps.length a.sc 265 (stepsV p.steps a.xs) := hr.up
  repeat (first
    | refine SeqOk.pass ?_
    | (show _ ∧ _; exact ⟨rfl, rfl, rfl⟩)
    | refine wkT ?_
    | refine Bs.all ?_
    | (show RetOk _ _ _ _ _ _; refine RetOk.of (T := T) (RL.row rfl rfl LdN.hasBlk (by rfl) (RL.tmp rfl (RL.tmp rfl RL.nil))) ?_)
    | (show QOk _ _ _ _ _ _ _; refine QOk.build rfl rfl Nf.auto ?_)
    | (show OpOk _ _ _ _ _ _ _; first | refine opB (fun b => ?_) | refine opA (fun a' c' hc1 hc2 => ?_))
    | (show GJ _ _ _ _ _ _ _; first | refine GJ.t (by decide) ?_ | refine GJ.f (by decide) ?_ | refine GJ.ft (by decide) ?_ | refine GJ.ff (by decide) ?_)
    | (show Br _ _ _; first | refine Br.t (by decide) ?_ | refine Br.f (by decide) ?_)
    | (show GJ _ _ _ _ _ _ _; first | (apply GJ.and; exact rfl; intro hg) | (apply GJ.or; exact rfl; intro hg)))
  refine Br.cases (fun hg => ?_) (fun hg => ?_)
  · have hi : i < p.steps.length := by omega
    obtain ⟨s, hsi⟩ : ∃ s, p.steps[i]? = some s := ⟨_, List.getElem?_eq_getElem hi⟩
    obtain ⟨x, hxi⟩ : ∃ x, a.xs[i]? = some x := ⟨_, List.getElem?_eq_getElem (by rw [hp.len]; exact hi)⟩
    have hs := hp.each i s x hsi hxi
    have hwl := hwn s (List.mem_of_getElem? hsi)
    have hw : Rs ro1 x.1 s.ways.length x.2 2 (waysV s.ways) := hs.ways.up
    have hd := stepsV_drop _ _ _ _ _ hp.inn hsi hxi
    have hrow := stepV_len (x := x) hs.inn
    have htk : p.steps.take (i + 1) = p.steps.take i ++ [s] := by rw [List.take_add_one, hsi]; rfl
    have hlen := stepsV_len (p.steps.take i) xs (fun t ht => hp.inn t (List.mem_of_mem_take ht)) (by rw [i2, List.length_take]; omega)
    rw [List.length_take, Nat.min_eq_left (by omega)] at hlen
    repeat (first
      | refine SeqOk.pass ?_
      | (show _ ∧ _; exact ⟨rfl, rfl, rfl⟩)
      | refine wkT ?_
      | refine Bs.all ?_
      | (show RetOk _ _ _ _ _ _; refine RetOk.of (T := T) (RL.row rfl rfl LdN.hasBlk (by rfl) (RL.tmp rfl (RL.tmp rfl RL.nil))) ?_)
      | (show QOk _ _ _ _ _ _ _; refine QOk.build rfl rfl Nf.auto ?_)
      | (show OpOk _ _ _ _ _ _ _; first | refine opB (fun b => ?_) | refine opA (fun a' c' hc1 hc2 => ?_))
      | (show GJ _ _ _ _ _ _ _; first | refine GJ.t (by decide) ?_ | refine GJ.f (by decide) ?_ | refine GJ.ft (by decide) ?_ | refine GJ.ff (by decide) ?_)
      | (show Br _ _ _; first | refine Br.t (by decide) ?_ | refine Br.f (by decide) ?_)
      | (show GJ _ _ _ _ _ _ _; first | (apply GJ.and; exact rfl; intro hg) | (apply GJ.or; exact rfl; intro hg)))
    rw [Int.toNat_natCast]
    refine OpOk.loadRow rfl rfl (LdN.at hr1 hd) hrow ?_
    repeat (first
      | refine SeqOk.pass ?_
      | (show _ ∧ _; exact ⟨rfl, rfl, rfl⟩)
      | refine wkT ?_
      | refine Bs.all ?_
      | (show RetOk _ _ _ _ _ _; refine RetOk.of (T := T) (RL.row rfl rfl LdN.hasBlk (by rfl) (RL.tmp rfl (RL.tmp rfl RL.nil))) ?_)
      | (show QOk _ _ _ _ _ _ _; refine QOk.build rfl rfl Nf.auto ?_)
      | (show OpOk _ _ _ _ _ _ _; first | refine opB (fun b => ?_) | refine opA (fun a' c' hc1 hc2 => ?_))
      | (show GJ _ _ _ _ _ _ _; first | refine GJ.t (by decide) ?_ | refine GJ.f (by decide) ?_ | refine GJ.ft (by decide) ?_ | refine GJ.ff (by decide) ?_)
      | (show Br _ _ _; first | refine Br.t (by decide) ?_ | refine Br.f (by decide) ?_)
      | (show GJ _ _ _ _ _ _ _; first | (apply GJ.and; exact rfl; intro hg) | (apply GJ.or; exact rfl; intro hg)))
    refine OpOk.storeRow rfl rfl rfl hrow (by rw [List.length_append, List.length_replicate]; rfl) (stepV_one s x) ?_
    repeat (first
      | refine SeqOk.pass ?_
      | (show _ ∧ _; exact ⟨rfl, rfl, rfl⟩)
      | refine wkT ?_
      | refine Bs.all ?_
      | (show RetOk _ _ _ _ _ _; refine RetOk.of (T := T) (RL.row rfl rfl LdN.hasBlk (by rfl) (RL.tmp rfl (RL.tmp rfl RL.nil))) ?_)
      | (show QOk _ _ _ _ _ _ _; refine QOk.build rfl rfl Nf.auto ?_)
      | (show OpOk _ _ _ _ _ _ _; first | refine opB (fun b => ?_) | refine opA (fun a' c' hc1 hc2 => ?_))
      | (show GJ _ _ _ _ _ _ _; first | refine GJ.t (by decide) ?_ | refine GJ.f (by decide) ?_ | refine GJ.ft (by decide) ?_ | refine GJ.ff (by decide) ?_)
      | (show Br _ _ _; first | refine Br.t (by decide) ?_ | refine Br.f (by decide) ?_)
      | (show GJ _ _ _ _ _ _ _; first | (apply GJ.and; exact rfl; intro hg) | (apply GJ.or; exact rfl; intro hg)))
    refine OpOk.appendN rfl rfl rfl rfl hw.rds (waysV_one _) (by omega) (fun a2 c2 q1 q2 => ?_)
    repeat (first
      | refine SeqOk.pass ?_
      | (show _ ∧ _; exact ⟨rfl, rfl, rfl⟩)
      | refine wkT ?_
      | refine Bs.all ?_
      | (show RetOk _ _ _ _ _ _; refine RetOk.of (T := T) (RL.row rfl rfl LdN.hasBlk (by rfl) (RL.tmp rfl (RL.tmp rfl RL.nil))) ?_)
      | (show QOk _ _ _ _ _ _ _; refine QOk.build rfl rfl Nf.auto ?_)
      | (show OpOk _ _ _ _ _ _ _; first | refine opB (fun b => ?_) | refine opA (fun a' c' hc1 hc2 => ?_))
      | (show GJ _ _ _ _ _ _ _; first | refine GJ.t (by decide) ?_ | refine GJ.f (by decide) ?_ | refine GJ.ft (by decide) ?_ | refine GJ.ff (by decide) ?_)
      | (show Br _ _ _; first | refine Br.t (by decide) ?_ | refine Br.f (by decide) ?_)
      | (show GJ _ _ _ _ _ _ _; first | (apply GJ.and; exact rfl; intro hg) | (apply GJ.or; exact rfl; intro hg)))
    refine OpOk.loadRow rfl rfl LdN.hasBlk (show (stepV s (a2, c2)).length = 265 from stepV_len hs.inn) ?_
    repeat (first
      | refine SeqOk.pass ?_
      | (show _ ∧ _; exact ⟨rfl, rfl, rfl⟩)
      | refine wkT ?_
      | refine Bs.all ?_
      | (show RetOk _ _ _ _ _ _; refine RetOk.of (T := T) (RL.row rfl rfl LdN.hasBlk (by rfl) (RL.tmp rfl (RL.tmp rfl RL.nil))) ?_)
      | (show QOk _ _ _ _ _ _ _; refine QOk.build rfl rfl Nf.auto ?_)
      | (show OpOk _ _ _ _ _ _ _; first | refine opB (fun b => ?_) | refine opA (fun a' c' hc1 hc2 => ?_))
      | (show GJ _ _ _ _ _ _ _; first | refine GJ.t (by decide) ?_ | refine GJ.f (by decide) ?_ | refine GJ.ft (by decide) ?_ | refine GJ.ff (by decide) ?_)
      | (show Br _ _ _; first | refine Br.t (by decide) ?_ | refine Br.f (by decide) ?_)
      | (show GJ _ _ _ _ _ _ _; first | (apply GJ.and; exact rfl; intro hg) | (apply GJ.or; exact rfl; intro hg)))
    have hrest : rest = rest.take 265 ++ rest.drop 265 := (List.take_append_drop _ _).symm
    have hr265 : (rest.take 265).length = 265 := by rw [List.length_take, i3]; omega
    refine OpOk.storeSlRow (k := i * 265) (vs := stepV s (a2, c2)) rfl rfl rfl (stepV_len hs.inn) (stepV_one s (a2, c2)) (by rw [Int.toNat_natCast]) (by rw [List.length_append, hlen, i3]; omega) (by omega) ?_
    have hsp : Go.E.splice (stepsV (p.steps.take i) xs ++ rest) (i * 265) (stepV s (a2, c2)) = stepsV (p.steps.take (i + 1)) (xs ++ [(a2, c2)]) ++ rest.drop 265 := by
      conv => lhs; arg 1; rw [hrest]
      rw [splice_mid hlen (by rw [hr265, stepV_len hs.inn]), htk, stepsV_snoc _ _ (by rw [i2, List.length_take]; omega)]
    rw [hsp]
    repeat (first
      | refine SeqOk.pass ?_
      | (show _ ∧ _; exact ⟨rfl, rfl, rfl⟩)
      | refine wkT ?_
      | refine Bs.all ?_
      | (show RetOk _ _ _ _ _ _; refine RetOk.of (T := T) (RL.row rfl rfl LdN.hasBlk (by rfl) (RL.tmp rfl (RL.tmp rfl RL.nil))) ?_)
      | (show QOk _ _ _ _ _ _ _; refine QOk.build rfl rfl Nf.auto ?_)
      | (show OpOk _ _ _ _ _ _ _; first | refine opB (fun b => ?_) | refine opA (fun a' c' hc1 hc2 => ?_))
      | (show GJ _ _ _ _ _ _ _; first | refine GJ.t (by decide) ?_ | refine GJ.f (by decide) ?_ | refine GJ.ft (by decide) ?_ | refine GJ.ff (by decide) ?_)
      | (show Br _ _ _; first | refine Br.t (by decide) ?_ | refine Br.f (by decide) ?_)
      | (show GJ _ _ _ _ _ _ _; first | (apply GJ.and; exact rfl; intro hg) | (apply GJ.or; exact rfl; intro hg)))
    refine Wk.freeze (c := .sl a2 _ _ _ _ _) Take.auto (fun ro2 hl2 hc2 => ?_)
    refine Wk.id ⟨(i + 1, xs ++ [(a2, c2)], rest.drop 265), ?_, ?_, Sub.auto, Sup.auto⟩
    all_goals try dsimp only
    · refine ⟨by omega, by simp [i2], by rw [List.length_drop, i3]; omega, fun j t y h1 h2 => ?_⟩
      rw [htk] at h1
      rcases snoc_get h1 with h1 | ⟨e1, rfl⟩
      · rcases snoc_get h2 with h2 | ⟨e2, rfl⟩
        · have := i4 j t y h1 h2
          exact ⟨this.inn, this.ways.up⟩
        · have := (List.getElem?_eq_some_iff.1 h1).1
          rw [List.length_take] at this; omega
      · rcases snoc_get h2 with h2 | ⟨e2, rfl⟩
        · have := (List.getElem?_eq_some_iff.1 h2).1
          rw [List.length_take] at e1; omega
        · exact ⟨hs.inn, Rs.last hc2⟩
    · omega
  obtain rfl : i = p.steps.length := by omega
  rw [Nat.sub_self, Nat.zero_mul] at i3
  have i3' := List.eq_nil_of_length_eq_zero i3
  subst i3'
  rw [List.take_length] at i4 ⊢
  rw [List.append_nil]
  repeat (first
    | refine SeqOk.pass ?_
    | (show _ ∧ _; exact ⟨rfl, rfl, rfl⟩)
    | refine wkT ?_
    | refine Bs.all ?_
    | (show RetOk _ _ _ _ _ _; refine RetOk.of (T := T) (RL.row rfl rfl LdN.hasBlk (by rfl) (RL.tmp rfl (RL.tmp rfl RL.nil))) ?_)
    | (show QOk _ _ _ _ _ _ _; refine QOk.build rfl rfl Nf.auto ?_)
    | (show OpOk _ _ _ _ _ _ _; first | refine opB (fun b => ?_) | refine opA (fun a' c' hc1 hc2 => ?_))
    | (show GJ _ _ _ _ _ _ _; first | refine GJ.t (by decide) ?_ | refine GJ.f (by decide) ?_ | refine GJ.ft (by decide) ?_ | refine GJ.ff (by decide) ?_)
    | (show Br _ _ _; first | refine Br.t (by decide) ?_ | refine Br.f (by decide) ?_)
    | (show GJ _ _ _ _ _ _ _; first | (apply GJ.and; exact rfl; intro hg) | (apply GJ.or; exact rfl; intro hg)))
  exact Wk.outS Sup.auto (.refl _) (hk ro1 ⟨some ⟨bs, 0, none⟩, p.steps.length, xs⟩ hl1 ⟨i2, i4, Nat.le_refl _, by show p.steps.length ≤ maxLen; unfold maxLen; omega⟩)
end
end Go.Proofs.YtniofdklhlbphaaDoor
